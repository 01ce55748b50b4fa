/- Texts of this claim, one behind the other: Sd Nd Oa Ne. -/
import Derived.Test.YthckbmcmdcemkaaGreatDoorBs39
import Derived.Test.YthckbmcmdcemkaaGreatDoorBs8
import Derived.Test.YthckbmcmdcemkaaGreatDoorBs29
import Derived.Test.YthckbmcmdcemkaaGreatDoorBs20
import Derived.Deep.CutRange
import Derived.Deep.CutBlock
import Derived.Test.YthckbmcmdcemkaaGreatDoorBs37
import Derived.Test.YthckbmcmdcemkaaGreatDoorBs24
import Derived.Deep.LoopGhost
set_option maxRecDepth 100000
set_option maxHeartbeats 16000000
set_option linter.unusedSimpArgs false
set_option linter.unusedVariables false
namespace Go.Proofs.YthckbmcmdcemkaaGreatDoor.stm
section
open Go.RowKit Go.Maps
open frm (FrV)
section
variable {W w w' : World} {H H' : Nat → Option Obj} {a : SetA} {s : SetS}
theorem handler_look {w : World} {M : Nat} (hM : frm.MapAt w 3 M 5 hnD5) (k : Int) (hwf : (Lit.int .i64 k).wf = true) {snd : Bool} {K : Nat} (hat : hnD5.atKey (.int .i64 k) (.held (.agg #[.bool false,.nilFunc])) = .held (hnV snd K)) (hhas : Maps.has hnD5 (.int .i64 k) = true) :
  (Instr.lookup 148 (.map (some M)) (.int .i64 k) true).run Tryz.prog w = .ok (.tuple #[hnV snd K,.bool true]) w:=by
 have:=hM.look_ok (t:=148) (e:=146) (Maps.int_keyed Tryz.underlying3) Tryz.underlying148 (z:=.agg #[.bool false,.nilFunc]) (by rfl) (Maps.keyOf_int_mk Tryz.underlying3 hwf) hat
 rw [hhas] at this
 exact this
def slH (i : Nat) : Option Nat:=([some 46,some 47,some 48,some 49,some 45,some 50,some 51,some 6,none,some 7] : List (Option Nat)).getD i none
theorem slH_lt : ∀ i,i < 10 → ∀ d,slH i = some d → d < 78:=fun i hi d h=>by
 have hjj : i = 0 ∨ i = 1 ∨ i = 2 ∨ i = 3 ∨ i = 4 ∨ i = 5 ∨ i = 6 ∨ i = 7 ∨ i = 8 ∨ i = 9:=by omega
 rcases hjj with rfl | rfl | rfl | rfl | rfl | rfl | rfl | rfl | rfl | rfl <;> cases h <;> decide
theorem slH_inj : ∀ i,i < 10 → ∀ j,j < 10 → slH i = slH j → slH i ≠ none → i = j:=by decide
theorem slH_ne3 : ∀ i,i < 10 → slH i ≠ some 3:=by decide
abbrev hnC (snd : Bool) (K : Nat) : Array Value:=#[.bool snd,.func (.func K) #[] #[]]
def valH (n : Nat) (ty : Int) (snd : Bool) (K : Nat) (x : Nat × Nat) (i : Nat) : Value:=(#[.map (some x.1),.pointer (some ⟨n,0,none⟩),.int .i64 ty,.tuple #[.agg (hnC snd K),.bool true],.tuple #[.agg (hnC snd K),.bool true],.agg (hnC snd K),.bool true,.pointer (some ⟨x.2,0,none⟩),undef,.bool true] : Array Value)[i]?.getD undef
theorem valH_eq (n : Nat) (ty : Int) (snd : Bool) (K : Nat) {x y : Nat × Nat} {i : Nat} (h0 : i = 0 → x.1 = y.1) (h7 : i = 7 → x.2 = y.2) : valH n ty snd K x i = valH n ty snd K y i:=by
 obtain ⟨x1,x2⟩:=x
 obtain ⟨y1,y2⟩:=y
 match i with
 | 1 | 2 | 3 | 4 | 5 | 6 | 8 | 9=>rfl
 | 0=>obtain rfl : x1 = y1:=h0 rfl;rfl
 | 7=>obtain rfl : x2 = y2:=h7 rfl;rfl
 | _ + 10=>rfl
structure WRh (w1 : World) (snd : Bool) (K : Nat) (x : Nat × Nat) (L : Nat → Bool) (w' : World) : Prop where
 b : Below w1.heap.size w1 w'
 m : L 0 = true → frm.MapAt w' 3 x.1 5 hnD5
 t : L 7 = true → w1.heap.size ≤ x.2 ∧ w'.heap[x.2]? = some (.cells (if L 8 then hnC snd K else #[.bool false,.nilFunc]) 146 (0,0))
 o : L 8 = true → L 7 = true
 n : L 0 = true → L 7 = true → x.1 ≠ x.2
theorem WRh.mono {w1 w' : World} {snd : Bool} {K : Nat} {x : Nat × Nat} {L : Nat → Bool} (h : WRh w1 snd K x L w') (i : Nat) (h0 : i ≠ 0) (h7 : i ≠ 7) (h8 : i ≠ 8) : WRh w1 snd K x (fun j=>j == i || L j) w':=by
 have e0 : (0 == i || L 0) = L 0:=by simp [Ne.symm h0]
 have e7 : (7 == i || L 7) = L 7:=by simp [Ne.symm h7]
 have e8 : (8 == i || L 8) = L 8:=by simp [Ne.symm h8]
 refine ⟨h.b,fun hL=>h.m (by rwa [e0] at hL),fun hL=>?_,fun hL=>?_,fun hL hM=>h.n (by rwa [e0] at hL) (by rwa [e7] at hM)⟩
 ·rw [e7] at hL
  rw [e8];exact h.t hL
 ·rw [e8] at hL
  rw [e7];exact h.o hL
theorem WRh.call {w1 w' w2 : World} {snd : Bool} {K M : Nat} {x : Nat × Nat} {L : Nat → Bool} (h : WRh w1 snd K x L w') (hM : frm.MapAt w2 3 M 5 hnD5) (hb : Below w'.heap.size w' w2) (hl : w'.heap.size ≤ M) : WRh w1 snd K (M,x.2) (fun j=>j == 0 || L j) w2:=by
 refine ⟨h.b.trans (hb.mono h.b.size),fun _=>hM,fun hL=>?_,fun hL=>?_,fun _ hL=>?_⟩
 ·have:=h.t (by simpa using hL)
  refine ⟨this.1,?_⟩
  have e:=heap_below hb this.2
  simpa using e
 ·have:=h.o (by simpa using hL)
  simp [this]
 ·have:=heap_lt (h.t (by simpa using hL)).2
  show M ≠ x.2
  omega
theorem WRh.alloc {w1 w' : World} {snd : Bool} {K : Nat} {x : Nat × Nat} {L : Nat → Bool} (h : WRh w1 snd K x L w') (hL7 : L 7 = false) : WRh w1 snd K (x.1,w'.heap.size) (fun j=>j == 7 || L j) (w'.alloc (.cells #[.bool false,.nilFunc] 146)):=by
 have h8 : L 8 = false:=by
  cases e : L 8 with
  | false=>rfl
  | true=>rw [h.o e] at hL7;cases hL7
 refine ⟨h.b.trans (((Below.refl _ w').alloc (Nat.le_refl _) _).mono h.b.size),fun hL=>(h.m (by simpa using hL)).alloc _,fun _=>⟨h.b.size,?_⟩,fun _=>by simp,fun hL _=>?_⟩
 ·have e : (if ((8 : Nat) == 7 || L 8) = true then hnC snd K else #[.bool false,.nilFunc]) = #[.bool false,.nilFunc]:=by simp [h8]
  rw [e]
  exact heap_alloc_new w' _
 ·have:=(h.m (by simpa using hL)).lt
  show x.1 ≠ w'.heap.size
  omega
theorem WRh.store {w1 w' : World} {snd : Bool} {K : Nat} {x : Nat × Nat} {L : Nat → Bool} (h : WRh w1 snd K x L w') (h7 : L 7 = true) (h8 : L 8 = false) : WRh w1 snd K x (fun j=>j == 8 || L j) (w'.setRow x.2 (hnC snd K)):=by
 obtain ⟨t1,t2⟩:=h.t h7
 have hg : w'.grownBy (w'.setRow x.2 (hnC snd K)) (some x.2):=⟨rfl,rfl,rfl,by simp,fun k _ hk=>setRow_other w' x.2 k _ (fun e=>hk (by rw [e]))⟩
 refine ⟨h.b.grown hg h.b.size (fun k e=>by cases e;exact t1),fun hL=>?_,fun _=>⟨t1,?_⟩,fun _=>by simp [h7],fun hL hM=>h.n (by simpa using hL) h7⟩
 ·have hL : L 0 = true:=by simpa using hL
  exact (h.m hL).grown hg (fun e=>h.n hL h7 (Option.some.inj e))
 ·simp
  exact setRow_heap w' x.2 _ _ 146 _ t2
theorem Receive_138 (hs : SetIn H a s) (hm : Mem W w H) (f : Fr) (hv : FrV f) (hwf : (Lit.int .i64 f.ty).wf = true) (h16 : f.ty ≠ 16 ∧ f.ty ≠ 18 ∧ f.ty ≠ 20 ∧ f.ty ≠ 22) (hat : hnD5.atKey (.int .i64 f.ty) (.held (.agg #[.bool false,.nilFunc])) = .held (hnV false 138)) (hhas : Maps.has hnD5 (.int .i64 f.ty) = true)
  (C : Nat → SetS → Prop) (Q : Int → SetS → List (StA × Strm) → List (StA × Strm) → StA → Strm → Prop)
  (CH : ∀ w1 H1,Mem W w1 H1 → SetIn H1 a s → Calls Tryz.prog 71 #[ptr a.sb,.int .i64 f.str,.bool false] w1 fun e w2=>∃ xb H2 s2,e = .returned (.tuple #[ptr xb,.int .i64 0]) ∧ To W w2 H1 H2 (s.foot a) (s2.foot a) ∧ SetIn H2 a s2 ∧ C xb s2)
  (HA : ∀ w2 H2 s2 xb,C xb s2 → Mem W w2 H2 → SetIn H2 a s2 → Calls Tryz.prog 138 #[ptr a.sb,ptr xb,f.val] w2 fun e w3=>∃ er H3 s3 l1 l2 xa3 x3,e = .returned (.int .i64 er) ∧ To W w3 H2 H3 (s2.foot a) (s3.foot a) ∧ SetIn H3 a s3 ∧ s3.ss = l1 ++ (xa3,x3) :: l2 ∧ xa3.xb = xb ∧ s3.g0.Ok ∧ s3.g1.Ok ∧ Q er s3 l1 l2 xa3 x3) :
  Calls Tryz.prog 24 #[ptr a.sb,f.val] w fun e w'=>∃ er H4 s3 l1 l2 xa3 x3,e = .returned (.int .i64 er) ∧ Q er s3 l1 l2 xa3 x3 ∧ s3.ss = l1 ++ (xa3,x3) :: l2 ∧ To W w' H H4 (s.foot a) ((stlS s3 l1 l2 xa3 x3).foot a) ∧ SetIn H4 a (stlS s3 l1 l2 xa3 x3):=by
 obtain ⟨H1,T1,n1⟩:=To.alloc hm (.cells f.cells 38)
 obtain ⟨S1,TS1⟩:=hs.laid T1
 have VA:=Lib.hid (fun wx=>frm.valid_any f wx hv)
 have hone:=FrV.one hv
 have FT:=Lib.hid (show ∀ k,s.foot a k → k < w.heap.size from fun k hk=>by
  obtain ⟨o,ho⟩:=hs.dom hk
  exact heap_lt (hm.at ho))
 have WN:=Lib.hid hm.below.size
 have hwz : (w.alloc (.cells f.cells 38)).heap.size = w.heap.size + 1:=World.size_alloc ..
 have WZ:=Lib.hid hwz
 have X0:=Lib.hid (heap_alloc_new w (.cells f.cells 38))
 have HL:=Lib.hid (fun (wx : World) (M : Nat) (hM : frm.MapAt wx 3 M 5 hnD5)=>handler_look hM f.ty hwf hat hhas)
 have k16 : (f.ty == 16) = false:=beq_eq_false_iff_ne.2 h16.1
 have k18 : (f.ty == 18) = false:=beq_eq_false_iff_ne.2 h16.2.1
 have k20 : (f.ty == 20) = false:=beq_eq_false_iff_ne.2 h16.2.2.1
 have k22 : (f.ty == 22) = false:=beq_eq_false_iff_ne.2 h16.2.2.2
 have CHH:=Lib.hid CH
 have HAH:=Lib.hid HA
 have R1:=Lib.hid (And.intro TS1 (And.intro S1 n1))
 clear hs hm T1 S1 TS1 n1 hwf hat hhas h16 CH HA hv hwz
 obtain ⟨ty,hty⟩ : ∃ q,f.ty = q:=⟨_,rfl⟩
 obtain ⟨sd,hsd⟩ : ∃ q,f.str = q:=⟨_,rfl⟩
 have f0 : (w.alloc (.cells f.cells 38)).cell? ⟨w.heap.size,0,none⟩ = some (.int .i64 ty):=by rw [← hty];exact at_whole X0.out 0 rfl
 have f1 : (w.alloc (.cells f.cells 38)).cell? ⟨w.heap.size,1,none⟩ = some (.int .i64 sd):=by rw [← hsd];exact at_whole X0.out 1 rfl
 rw [hty] at k16 k18 k20 k22 HL
 rw [hsd] at CHH
 unfold Fr.val at *
 unfold ptr at *
 obtain ⟨FC,hFC⟩ : ∃ y,f.cells = y:=⟨_,rfl⟩
 have hsz : FC.size = 13:=by rw [← hFC];rfl
 have h1c : FC.all (·.oneCell') = true:=by rw [← hFC];exact hone
 rw [hFC] at VA HAH f0 f1 X0 R1 WZ ⊢
 have HF:=Lib.hid (And.intro hFC hty)
 have HSZ:=Lib.hid (show (Tryz.prog.info? 38).map (·.size) = some FC.size from by rw [hsz];kernel_rfl)
 have H1C:=Lib.hid (And.intro hsz h1c)
 clear hFC hty hsd hone hsz h1c
 go_enter_defers Tryz.func24,Tryz.ntmps24
 go_upto_region 3 with fail
 generalize hwv : w.alloc (.cells FC 38) = wv at *
 generalize hn : w.heap.size = n at *
 have hlt:=heap_lt X0.out
 go_upto_region 5 with (first | (refine wpList_load_row rfl 38 _ rfl n rfl 38 FC (0,0) _ X0.out Tryz.underlying38 rfl HSZ.out ?_) | (go_at_call 47;refine (VA.out _).mono ?_;rintro e w1 ⟨rfl,hb1⟩;have g0:=(hb1.cell (p:=⟨n,0,none⟩) hlt).trans f0;have g1:=(hb1.cell (p:=⟨n,1,none⟩) hlt).trans f1;have B1:=Lib.hid hb1;clear hb1))
 have M1:=Lib.hid (And.intro (R1.out.1.same B1.out) (heap_below B1.out X0.out))
 clear f0 f1 hlt
 go_upto_region 16 with fail
 have HSZ2:=Lib.hid (show (Tryz.prog.info? 146).map (·.size) = some 2 from by kernel_rfl)
 refine rea.any_regionT (τ:=Nat × Nat) (0,0) 10 slH (valH n ty false 138) (fun x L w'=>WRh w1 false 138 x L w') rfl (by kernel_rfl) rfl (fun i d hi h=>by have:=slH_lt i hi d h;simp;omega) (fun i j d hi hj h1 h2=>slH_inj i hi j hj (h1.trans h2.symm) (by rw [h1];simp)) ⟨(Below.refl _ w1).drew,(fun h=>by cases h),(fun h=>by cases h),(fun h=>by cases h),(fun h=>by cases h)⟩ ?_ (fun _=>rfl) ?_
 ·rintro x i o hi ho L aa w2 hLi hdl hW ⟨hold,hdep⟩
  have o3:=hold 3 slH_ne3
  simp at o3
  have g0':=(hW.b.cell (p:=⟨n,0,none⟩) (heap_lt M1.out.2)).trans g0
  have hii : i = 0 ∨ i = 3 ∨ i = 7 ∨ i = 8 ∨ i = 1 ∨ i = 2 ∨ i = 4 ∨ i = 5 ∨ i = 6 ∨ i = 9:=by omega
  rcases hii with rfl | rfl | rfl | rfl | rfl | rfl | rfl | rfl | rfl | rfl
  ·cases ho
   refine ⟨rfl,rfl,fun K' hK=>?_⟩
   unfold Oper.wp
   simp [execOp,Oper.upon,resolve,invoke,go_sem,Act.eval]
   refine (handlers_any w2).mono ?_
   rintro e w3 ⟨M,rfl,hM,hb,hl⟩
   exact hK (M,x.2) _ (fun i hi=>valH_eq _ _ _ _ (fun e=>by subst e;rw [hLi] at hi;cases hi) (fun _=>rfl)) (hW.call hM hb hl)
  ·cases ho
   simp [Region.binds,slH] at hdep hdl
   have hlk:=HL.out w2 x.1 (hW.m hdl.1)
   unfold hnV at hlk
   refine ⟨rfl,rfl,fun K' hK=>?_⟩
   unfold Oper.wp
   simp [execOp,Oper.upon,go_sem,Act.eval,hdep,valH,hlk]
   exact hK x _ (fun _ _=>rfl) (hW.mono 3 (by decide) (by decide) (by decide))
  ·cases ho
   refine ⟨rfl,rfl,fun K' hK=>?_⟩
   unfold Oper.wp
   simp [execOp,Oper.upon,go_sem]
   exact hK (x.1,w2.heap.size) _ (fun i hi=>valH_eq _ _ _ _ (fun _=>rfl) (fun e=>by subst e;rw [hLi] at hi;cases hi)) (hW.alloc hLi)
  ·cases ho
   simp [Region.binds,slH] at hdep hdl
   refine ⟨rfl,rfl,fun K' hK=>?_⟩
   have h7 : L 7 = true:=by simp [hdl]
   obtain ⟨t1,t2⟩:=hW.t h7
   rw [hLi] at t2
   exact wp_store_row 146 (.tmp 6) (.tmp 50) rfl x.2 (hnC false 138) (by simp [Act.eval,hdep,valH]) (by simp [Act.eval,hdep,valH]) 146 _ t2 HSZ2.out rfl (by simp [Value.oneCell']) (hK x _ (fun _ _=>rfl) (hW.store h7 hLi))
  all_goals
   cases ho
   simp [Region.binds,slH] at hdep hdl
   refine ⟨rfl,rfl,fun K' hK=>?_⟩
   unfold Oper.wp
   first
    | (simp [execOp,Oper.upon,go_sem,Act.eval,hdep,o3,g0',valH];exact hK x _ (fun _ _=>rfl) (hW.mono _ (by decide) (by decide) (by decide)))
    | (simp [execOp,Oper.upon,go_sem,Act.eval,o3,g0',valH];exact hK x _ (fun _ _=>rfl) (hW.mono _ (by decide) (by decide) (by decide)))
 ·rintro ⟨M,tb⟩ L w2 hall hW
  obtain ⟨t1,t2⟩:=hW.t (hall 7 (by decide))
  rw [hall 8 (by decide),if_pos rfl] at t2
  have M2:=Lib.hid (And.intro (M1.out.1.same hW.b) (And.intro (heap_below hW.b M1.out.2) (And.intro t1 t2)))
  clear hW hall t1 t2 HL g0
  simp only [rea.setAll,slH,valH]
  rw [show List.range 10 = [0,1,2,3,4,5,6,7,8,9] from rfl]
  simp only [List.foldl_cons,List.foldl_nil,List.getD_cons_zero,List.getD_cons_succ]
  simp (decide:=true) only [List.setIfInBounds_toArray,List.set_cons_succ,List.set_cons_zero,List.getElem?_toArray,List.getElem?_cons_succ,List.getElem?_cons_zero,Option.getD_some]
  have s0 : w2.cell? ⟨tb,0,none⟩ = some (.bool false):=at_whole M2.out.2.2.2 0 rfl
  have s1 : w2.cell? ⟨n,1,none⟩ = some (.int .i64 sd):=(World.cell?_of_block (a:=⟨n,1,none⟩) (M2.out.2.1.trans M1.out.2.symm)).trans g1
  have hn1 : n < w1.heap.size:=by have:=B1.out.size;have:=WZ.out;omega
  have S2 : SetIn (full W w2) a s:=R1.out.2.1.keep (fun k o _ e=>full_at M2.out.1.mem e)
  have CC:=Lib.hid (CHH.out w2 (full W w2) (Mem.full M2.out.1.mem.below) S2)
  have T2:=Lib.hid M2.out.1.full
  go_upto_region 20 with (go_at_call 71;refine CC.out.mono ?_;rintro e w3 ⟨xb,H3,s3,rfl,hT3,hS3,hC3⟩;have G3:=Lib.hid (And.intro hT3 (And.intro hS3 hC3));clear hT3 hS3 hC3)
  have nb3 : H3 n = some (.cells FC 38 (0,0)):=G3.out.1.kp n _ (full_is M2.out.2.1 WN.out) (fun c=>by have:=FT.out n c;omega)
  have tb3 : H3 tb = some (.cells (hnC false 138) 146 (0,0)):=G3.out.1.kp tb _ (full_is M2.out.2.2.2 (by have h1 : w1.heap.size ≤ tb:=M2.out.2.2.1;have:=WN.out;omega)) (fun c=>by have:=FT.out tb c;have h1 : w1.heap.size ≤ tb:=M2.out.2.2.1;omega)
  have HX3:=Lib.hid (G3.out.1.mem.at nb3)
  have t1 : w3.cell? ⟨tb,1,none⟩ = some (.func (.func 138) #[] #[]):=at_whole (G3.out.1.mem.at tb3) 1 rfl
  have AA:=Lib.hid (HAH.out w3 H3 s3 xb G3.out.2.2 G3.out.1.mem G3.out.2.1)
  clear s0 s1 nb3 tb3 CC S2
  go_wp2_with (first | (refine wpList_load_row rfl 38 _ rfl n rfl 38 FC (0,0) _ HX3.out Tryz.underlying38 rfl HSZ.out ?_) | (go_at_call 138;refine AA.out.mono ?_;rintro e w4 ⟨er,H4,s4,l1,l2,xa3,x3,rfl,hT4,hS4,hl4,hx4,ho0,ho1,hQ⟩;have G4:=Lib.hid (And.intro hT4 (And.intro hS4 (And.intro hl4 (And.intro hx4 (And.intro ho0 (And.intro ho1 hQ))))));clear hT4 hS4 hl4 hx4 ho0 ho1 hQ))
  refine leaves_cons (f:=72) (args:=#[.pointer (some ⟨a.sb,0,none⟩),.pointer (some ⟨xb,0,none⟩)]) (by simp) (by simp [go_sem]) ?_
  have SD:=settle_anyD G4.out.2.1 G4.out.1.mem G4.out.2.2.1 G4.out.2.2.2.2.1 G4.out.2.2.2.2.2.1
  rw [G4.out.2.2.2.1] at SD
  refine SD.mono ?_
  rintro e u' w5 ⟨rfl,rfl,H5,T5,S5⟩
  exact ⟨_,results_tmp rfl _ _ _,er,H5,s4,l1,l2,xa3,x3,rfl,G4.out.2.2.2.2.2.2,G4.out.2.2.1,((T2.out.trans G3.out.1).trans G4.out.1).trans T5,S5⟩
theorem Receive_140 (hs : SetIn H a s) (hm : Mem W w H) (f : Fr) (hv : FrV f) (hwf : (Lit.int .i64 f.ty).wf = true) (h16 : f.ty ≠ 16 ∧ f.ty ≠ 18 ∧ f.ty ≠ 20 ∧ f.ty ≠ 22) (hat : hnD5.atKey (.int .i64 f.ty) (.held (.agg #[.bool false,.nilFunc])) = .held (hnV true 140)) (hhas : Maps.has hnD5 (.int .i64 f.ty) = true)
  (C : Nat → SetS → Prop) (Q : Int → SetS → List (StA × Strm) → List (StA × Strm) → StA → Strm → Prop)
  (CH : ∀ w1 H1,Mem W w1 H1 → SetIn H1 a s → Calls Tryz.prog 71 #[ptr a.sb,.int .i64 f.str,.bool true] w1 fun e w2=>∃ xb H2 s2,e = .returned (.tuple #[ptr xb,.int .i64 0]) ∧ To W w2 H1 H2 (s.foot a) (s2.foot a) ∧ SetIn H2 a s2 ∧ C xb s2)
  (HA : ∀ w2 H2 s2 xb,C xb s2 → Mem W w2 H2 → SetIn H2 a s2 → Calls Tryz.prog 140 #[ptr a.sb,ptr xb,f.val] w2 fun e w3=>∃ er H3 s3 l1 l2 xa3 x3,e = .returned (.int .i64 er) ∧ To W w3 H2 H3 (s2.foot a) (s3.foot a) ∧ SetIn H3 a s3 ∧ s3.ss = l1 ++ (xa3,x3) :: l2 ∧ xa3.xb = xb ∧ s3.g0.Ok ∧ s3.g1.Ok ∧ Q er s3 l1 l2 xa3 x3) :
  Calls Tryz.prog 24 #[ptr a.sb,f.val] w fun e w'=>∃ er H4 s3 l1 l2 xa3 x3,e = .returned (.int .i64 er) ∧ Q er s3 l1 l2 xa3 x3 ∧ s3.ss = l1 ++ (xa3,x3) :: l2 ∧ To W w' H H4 (s.foot a) ((stlS s3 l1 l2 xa3 x3).foot a) ∧ SetIn H4 a (stlS s3 l1 l2 xa3 x3):=by
 obtain ⟨H1,T1,n1⟩:=To.alloc hm (.cells f.cells 38)
 obtain ⟨S1,TS1⟩:=hs.laid T1
 have VA:=Lib.hid (fun wx=>frm.valid_any f wx hv)
 have hone:=FrV.one hv
 have FT:=Lib.hid (show ∀ k,s.foot a k → k < w.heap.size from fun k hk=>by
  obtain ⟨o,ho⟩:=hs.dom hk
  exact heap_lt (hm.at ho))
 have WN:=Lib.hid hm.below.size
 have hwz : (w.alloc (.cells f.cells 38)).heap.size = w.heap.size + 1:=World.size_alloc ..
 have WZ:=Lib.hid hwz
 have X0:=Lib.hid (heap_alloc_new w (.cells f.cells 38))
 have HL:=Lib.hid (fun (wx : World) (M : Nat) (hM : frm.MapAt wx 3 M 5 hnD5)=>handler_look hM f.ty hwf hat hhas)
 have k16 : (f.ty == 16) = false:=beq_eq_false_iff_ne.2 h16.1
 have k18 : (f.ty == 18) = false:=beq_eq_false_iff_ne.2 h16.2.1
 have k20 : (f.ty == 20) = false:=beq_eq_false_iff_ne.2 h16.2.2.1
 have k22 : (f.ty == 22) = false:=beq_eq_false_iff_ne.2 h16.2.2.2
 have CHH:=Lib.hid CH
 have HAH:=Lib.hid HA
 have R1:=Lib.hid (And.intro TS1 (And.intro S1 n1))
 clear hs hm T1 S1 TS1 n1 hwf hat hhas h16 CH HA hv hwz
 obtain ⟨ty,hty⟩ : ∃ q,f.ty = q:=⟨_,rfl⟩
 obtain ⟨sd,hsd⟩ : ∃ q,f.str = q:=⟨_,rfl⟩
 have f0 : (w.alloc (.cells f.cells 38)).cell? ⟨w.heap.size,0,none⟩ = some (.int .i64 ty):=by rw [← hty];exact at_whole X0.out 0 rfl
 have f1 : (w.alloc (.cells f.cells 38)).cell? ⟨w.heap.size,1,none⟩ = some (.int .i64 sd):=by rw [← hsd];exact at_whole X0.out 1 rfl
 rw [hty] at k16 k18 k20 k22 HL
 rw [hsd] at CHH
 unfold Fr.val at *
 unfold ptr at *
 obtain ⟨FC,hFC⟩ : ∃ y,f.cells = y:=⟨_,rfl⟩
 have hsz : FC.size = 13:=by rw [← hFC];rfl
 have h1c : FC.all (·.oneCell') = true:=by rw [← hFC];exact hone
 rw [hFC] at VA HAH f0 f1 X0 R1 WZ ⊢
 have HF:=Lib.hid (And.intro hFC hty)
 have HSZ:=Lib.hid (show (Tryz.prog.info? 38).map (·.size) = some FC.size from by rw [hsz];kernel_rfl)
 have H1C:=Lib.hid (And.intro hsz h1c)
 clear hFC hty hsd hone hsz h1c
 go_enter_defers Tryz.func24,Tryz.ntmps24
 go_upto_region 3 with fail
 generalize hwv : w.alloc (.cells FC 38) = wv at *
 generalize hn : w.heap.size = n at *
 have hlt:=heap_lt X0.out
 go_upto_region 5 with (first | (refine wpList_load_row rfl 38 _ rfl n rfl 38 FC (0,0) _ X0.out Tryz.underlying38 rfl HSZ.out ?_) | (go_at_call 47;refine (VA.out _).mono ?_;rintro e w1 ⟨rfl,hb1⟩;have g0:=(hb1.cell (p:=⟨n,0,none⟩) hlt).trans f0;have g1:=(hb1.cell (p:=⟨n,1,none⟩) hlt).trans f1;have B1:=Lib.hid hb1;clear hb1))
 have M1:=Lib.hid (And.intro (R1.out.1.same B1.out) (heap_below B1.out X0.out))
 clear f0 f1 hlt
 go_upto_region 16 with fail
 have HSZ2:=Lib.hid (show (Tryz.prog.info? 146).map (·.size) = some 2 from by kernel_rfl)
 refine rea.any_regionT (τ:=Nat × Nat) (0,0) 10 slH (valH n ty true 140) (fun x L w'=>WRh w1 true 140 x L w') rfl (by kernel_rfl) rfl (fun i d hi h=>by have:=slH_lt i hi d h;simp;omega) (fun i j d hi hj h1 h2=>slH_inj i hi j hj (h1.trans h2.symm) (by rw [h1];simp)) ⟨(Below.refl _ w1).drew,(fun h=>by cases h),(fun h=>by cases h),(fun h=>by cases h),(fun h=>by cases h)⟩ ?_ (fun _=>rfl) ?_
 ·rintro x i o hi ho L aa w2 hLi hdl hW ⟨hold,hdep⟩
  have o3:=hold 3 slH_ne3
  simp at o3
  have g0':=(hW.b.cell (p:=⟨n,0,none⟩) (heap_lt M1.out.2)).trans g0
  have hii : i = 0 ∨ i = 3 ∨ i = 7 ∨ i = 8 ∨ i = 1 ∨ i = 2 ∨ i = 4 ∨ i = 5 ∨ i = 6 ∨ i = 9:=by omega
  rcases hii with rfl | rfl | rfl | rfl | rfl | rfl | rfl | rfl | rfl | rfl
  ·cases ho
   refine ⟨rfl,rfl,fun K' hK=>?_⟩
   unfold Oper.wp
   simp [execOp,Oper.upon,resolve,invoke,go_sem,Act.eval]
   refine (handlers_any w2).mono ?_
   rintro e w3 ⟨M,rfl,hM,hb,hl⟩
   exact hK (M,x.2) _ (fun i hi=>valH_eq _ _ _ _ (fun e=>by subst e;rw [hLi] at hi;cases hi) (fun _=>rfl)) (hW.call hM hb hl)
  ·cases ho
   simp [Region.binds,slH] at hdep hdl
   have hlk:=HL.out w2 x.1 (hW.m hdl.1)
   unfold hnV at hlk
   refine ⟨rfl,rfl,fun K' hK=>?_⟩
   unfold Oper.wp
   simp [execOp,Oper.upon,go_sem,Act.eval,hdep,valH,hlk]
   exact hK x _ (fun _ _=>rfl) (hW.mono 3 (by decide) (by decide) (by decide))
  ·cases ho
   refine ⟨rfl,rfl,fun K' hK=>?_⟩
   unfold Oper.wp
   simp [execOp,Oper.upon,go_sem]
   exact hK (x.1,w2.heap.size) _ (fun i hi=>valH_eq _ _ _ _ (fun _=>rfl) (fun e=>by subst e;rw [hLi] at hi;cases hi)) (hW.alloc hLi)
  ·cases ho
   simp [Region.binds,slH] at hdep hdl
   refine ⟨rfl,rfl,fun K' hK=>?_⟩
   have h7 : L 7 = true:=by simp [hdl]
   obtain ⟨t1,t2⟩:=hW.t h7
   rw [hLi] at t2
   exact wp_store_row 146 (.tmp 6) (.tmp 50) rfl x.2 (hnC true 140) (by simp [Act.eval,hdep,valH]) (by simp [Act.eval,hdep,valH]) 146 _ t2 HSZ2.out rfl (by simp [Value.oneCell']) (hK x _ (fun _ _=>rfl) (hW.store h7 hLi))
  all_goals
   cases ho
   simp [Region.binds,slH] at hdep hdl
   refine ⟨rfl,rfl,fun K' hK=>?_⟩
   unfold Oper.wp
   first
    | (simp [execOp,Oper.upon,go_sem,Act.eval,hdep,o3,g0',valH];exact hK x _ (fun _ _=>rfl) (hW.mono _ (by decide) (by decide) (by decide)))
    | (simp [execOp,Oper.upon,go_sem,Act.eval,o3,g0',valH];exact hK x _ (fun _ _=>rfl) (hW.mono _ (by decide) (by decide) (by decide)))
 ·rintro ⟨M,tb⟩ L w2 hall hW
  obtain ⟨t1,t2⟩:=hW.t (hall 7 (by decide))
  rw [hall 8 (by decide),if_pos rfl] at t2
  have M2:=Lib.hid (And.intro (M1.out.1.same hW.b) (And.intro (heap_below hW.b M1.out.2) (And.intro t1 t2)))
  clear hW hall t1 t2 HL g0
  simp only [rea.setAll,slH,valH]
  rw [show List.range 10 = [0,1,2,3,4,5,6,7,8,9] from rfl]
  simp only [List.foldl_cons,List.foldl_nil,List.getD_cons_zero,List.getD_cons_succ]
  simp (decide:=true) only [List.setIfInBounds_toArray,List.set_cons_succ,List.set_cons_zero,List.getElem?_toArray,List.getElem?_cons_succ,List.getElem?_cons_zero,Option.getD_some]
  have s0 : w2.cell? ⟨tb,0,none⟩ = some (.bool true):=at_whole M2.out.2.2.2 0 rfl
  have s1 : w2.cell? ⟨n,1,none⟩ = some (.int .i64 sd):=(World.cell?_of_block (a:=⟨n,1,none⟩) (M2.out.2.1.trans M1.out.2.symm)).trans g1
  have hn1 : n < w1.heap.size:=by have:=B1.out.size;have:=WZ.out;omega
  have S2 : SetIn (full W w2) a s:=R1.out.2.1.keep (fun k o _ e=>full_at M2.out.1.mem e)
  have CC:=Lib.hid (CHH.out w2 (full W w2) (Mem.full M2.out.1.mem.below) S2)
  have T2:=Lib.hid M2.out.1.full
  go_upto_region 20 with (go_at_call 71;refine CC.out.mono ?_;rintro e w3 ⟨xb,H3,s3,rfl,hT3,hS3,hC3⟩;have G3:=Lib.hid (And.intro hT3 (And.intro hS3 hC3));clear hT3 hS3 hC3)
  have nb3 : H3 n = some (.cells FC 38 (0,0)):=G3.out.1.kp n _ (full_is M2.out.2.1 WN.out) (fun c=>by have:=FT.out n c;omega)
  have tb3 : H3 tb = some (.cells (hnC true 140) 146 (0,0)):=G3.out.1.kp tb _ (full_is M2.out.2.2.2 (by have h1 : w1.heap.size ≤ tb:=M2.out.2.2.1;have:=WN.out;omega)) (fun c=>by have:=FT.out tb c;have h1 : w1.heap.size ≤ tb:=M2.out.2.2.1;omega)
  have HX3:=Lib.hid (G3.out.1.mem.at nb3)
  have t1 : w3.cell? ⟨tb,1,none⟩ = some (.func (.func 140) #[] #[]):=at_whole (G3.out.1.mem.at tb3) 1 rfl
  have AA:=Lib.hid (HAH.out w3 H3 s3 xb G3.out.2.2 G3.out.1.mem G3.out.2.1)
  clear s0 s1 nb3 tb3 CC S2
  go_wp2_with (first | (refine wpList_load_row rfl 38 _ rfl n rfl 38 FC (0,0) _ HX3.out Tryz.underlying38 rfl HSZ.out ?_) | (go_at_call 140;refine AA.out.mono ?_;rintro e w4 ⟨er,H4,s4,l1,l2,xa3,x3,rfl,hT4,hS4,hl4,hx4,ho0,ho1,hQ⟩;have G4:=Lib.hid (And.intro hT4 (And.intro hS4 (And.intro hl4 (And.intro hx4 (And.intro ho0 (And.intro ho1 hQ))))));clear hT4 hS4 hl4 hx4 ho0 ho1 hQ))
  refine leaves_cons (f:=72) (args:=#[.pointer (some ⟨a.sb,0,none⟩),.pointer (some ⟨xb,0,none⟩)]) (by simp) (by simp [go_sem]) ?_
  have SD:=settle_anyD G4.out.2.1 G4.out.1.mem G4.out.2.2.1 G4.out.2.2.2.2.1 G4.out.2.2.2.2.2.1
  rw [G4.out.2.2.2.1] at SD
  refine SD.mono ?_
  rintro e u' w5 ⟨rfl,rfl,H5,T5,S5⟩
  exact ⟨_,results_tmp rfl _ _ _,er,H5,s4,l1,l2,xa3,x3,rfl,G4.out.2.2.2.2.2.2,G4.out.2.2.1,((T2.out.trans G3.out.1).trans G4.out.1).trans T5,S5⟩
end
end
section
open Go.RowKit
theorem drewN2 (w : World) (m n : Nat) : (w.drewN m).drewN n = w.drewN (m + n):=by simp [World.drewN,Nat.add_assoc]
section
variable {W w : World} {H : Nat → Option Obj} {a : SetA} {s : SetS}
end
end
section
open Go.RowKit
def crL (cl : Bool) (psd : Int) (sd b : Nat) : List StA → Nat → List (StA × Strm) → List (StA × Strm)
 | [],_,l=>l
 | xa :: t,j,l=>crL cl psd sd b t (j + 1) (insS (xa,newStrm cl psd sd (4 * j + b)) l)
theorem crL_snoc {cl : Bool} {psd : Int} {sd b : Nat} {xa : StA} : ∀ {xs : List StA} {j : Nat} {l : List (StA × Strm)},crL cl psd sd b (xs ++ [xa]) j l = insS (xa,newStrm cl psd sd (4 * (j + xs.length) + b)) (crL cl psd sd b xs j l)
 | [],j,l=>rfl
 | x :: t,j,l=>by
  simp only [List.cons_append,crL,List.length_cons]
  rw [crL_snoc,show j + 1 + t.length = j + (t.length + 1) by omega]
theorem mem_crL {cl : Bool} {psd : Int} {sd b : Nat} {e : StA × Strm} : ∀ {xs : List StA} {j : Nat} {l : List (StA × Strm)},e ∈ crL cl psd sd b xs j l → e ∈ l ∨ ∃ i,j ≤ i ∧ i < j + xs.length ∧ e.2 = newStrm cl psd sd (4 * i + b)
 | [],j,l=>fun h=>.inl h
 | x :: t,j,l=>fun h=>by
  rcases mem_crL (xs:=t) h with h | ⟨i,h1,h2,h3⟩
  ·rcases mem_insS.1 h with rfl | h
   ·exact .inr ⟨j,by omega,by simp,rfl⟩
   ·exact .inl h
  ·exact .inr ⟨i,by omega,by simp;omega,h3⟩
theorem length_crL {cl : Bool} {psd : Int} {sd b : Nat} : ∀ {xs : List StA} {j : Nat} {l : List (StA × Strm)},(crL cl psd sd b xs j l).length = l.length + xs.length
 | [],j,l=>rfl
 | x :: t,j,l=>by rw [crL,length_crL,length_insS,List.length_cons];omega
def fndP (l : List (StA × Strm)) (id : Nat) : Value:=match l.find? (fun e=>e.2.id == id) with | some e=>ptr e.1.xb | none=>.pointer none
section
variable {W w : World} {H : Nat → Option Obj} {a : SetA} {s : SetS}
theorem SetIn.fnd (hs : SetIn H a s) (hm : Mem W w H) (id : Nat) (hid : id < 4611686018427387904) : (Instr.lookup 109 (.map (some a.M)) (.int .i64 id) false).run Tryz.prog w = .ok (fndP s.ss id) w:=by
 unfold fndP
 cases h : s.ss.find? (fun e=>e.2.id == id) with
 | some e=>
  have h1:=List.find?_some h
  have h2:=List.mem_of_find?_eq_some h
  simp only [beq_iff_eq] at h1
  subst h1
  exact hs.look hm (xa:=e.1) (x:=e.2) h2
 | none=>
  refine hs.look_no hm (fun e he hc=>?_) (idWf (by omega))
  have:=List.find?_eq_none.1 h e he
  simp at this
  omega
theorem concerned_new0 (hs : SetIn H a s) (hm : Mem W w H) (id : Nat) (hid : id < 1152921504606846976) (snd : Bool) (hk : kindN id = 0) (hlc : isLoc s.cl id = false) (m : Nat) (hmo : s.g0.acc = m) (hi : (id : Int) / 4 < s.g0.gr + s.g0.fg) (hb : -9223372036854775808 ≤ s.g0.gr + s.g0.fg ∧ s.g0.gr + s.g0.fg ≤ 800000)
  (hp0 : 0 ≤ s.peer.sdata) (hp1 : s.peer.sdata ≤ 1073741824) (sd : Nat) (hl : s.loc.sdata = sd) (hl2 : sd ≤ 8192) (hmb : m ≤ 800000) (hfree : ∀ e ∈ s.ss,e.2.id % 4 = id % 4 → e.2.id / 4 < m) (hlen : s.ss.length + (id / 4 + 1 - m) ≤ 900000) :
  Calls Tryz.prog 71 #[ptr a.sb,.int .i64 id,.bool snd] w fun e w'=>∃ xs : List StA,xs.length = id / 4 + 1 - m ∧ e = .returned (.tuple #[fndP (crL s.cl s.peer.sdata sd (id % 4) xs m s.ss) id,.int .i64 0]) ∧ ∃ H',To W w' H H' (s.foot a) (SetS.foot { s with ss:=crL s.cl s.peer.sdata sd (id % 4) xs m s.ss,g0:={ s.g0 with acc:=(m + xs.length : Nat) } } a) ∧ SetIn H' a { s with ss:=crL s.cl s.peer.sdata sd (id % 4) xs m s.ss,g0:={ s.g0 with acc:=(m + xs.length : Nat) } }:=by
 have c0 : w.cell? ⟨a.sb,0,none⟩ = some (.bool s.cl):=at_whole' (hm.at hs.sb) rfl
 have c17 : w.cell? ⟨a.sb,17,none⟩ = some (.int .i64 s.g0.gr):=at_whole' (hm.at hs.sb) rfl
 have c18 : w.cell? ⟨a.sb,18,none⟩ = some (.int .i64 s.g0.fg):=at_whole' (hm.at hs.sb) rfl
 have hw : IntKind.i64.wrap (s.g0.gr + s.g0.fg) = s.g0.gr + s.g0.fg:=IntWalk.i64_in _ (by omega)
 have KD:=Lib.hid (fun wx=>kind_any id (by omega) wx)
 have LC:=Lib.hid (fun wx (hc : wx.cell? ⟨a.sb,0,none⟩ = some (.bool s.cl))=>local_any a.sb id s.cl (by omega) wx hc)
 have C0:=Lib.hid c0
 obtain ⟨ix,hix⟩ : ∃ ix : Nat,id / 4 = ix:=⟨_,rfl⟩
 obtain ⟨b,hbb⟩ : ∃ b : Nat,id % 4 = b:=⟨_,rfl⟩
 have hixc : (id : Int) / 4 = (ix : Int):=by omega
 have d : decide (s.g0.gr + s.g0.fg ≤ (ix : Int)) = false:=decide_eq_false (by omega)
 have ea : bits .and .i64 (id : Int) 3 = (b : Int):=by rw [and3_i64 id (by omega),hbb]
 have hb4 : b < 4:=by omega
 have hixb : ix < 800000:=by omega
 have SR0 : Hid (∀ n,SetIn H a { s with ss:=crL s.cl s.peer.sdata sd b [] m s.ss,g0:={ s.g0 with acc:=(m : Nat) } } ∧ To W (w.drewN n) H H (s.foot a) (SetS.foot { s with ss:=crL s.cl s.peer.sdata sd b [] m s.ss,g0:={ s.g0 with acc:=(m : Nat) } } a)):=Lib.hid (fun n=>by
  have e : ({ s with ss:=crL s.cl s.peer.sdata sd b [] m s.ss,g0:={ s.g0 with acc:=(m : Nat) } } : SetS) = s:=by rw [← hmo];rfl
  rw [e];exact ⟨hs,(To.refl hm _).same (belowN (Below.refl _ w) n)⟩)
 rw [hbb] at hfree ⊢
 rw [hix] at hlen ⊢
 rw [hk] at KD
 rw [hlc] at LC
 have HF:=Lib.hid hfree
 have HP:=Lib.hid (And.intro hp0 (And.intro hp1 (And.intro hl hl2)))
 have HC:=Lib.hid (And.intro hlc hk)
 have HMX:=Lib.hid (And.intro hix hbb)
 clear hs hm hk hlc c0 hi hb hmo hfree hp0 hp1 hl hl2
 simp only [show ((0 : Nat) : Int) = 0 from rfl] at KD
 unfold ptr
 go_enter Tryz.func71,Tryz.ntmps71
 go_upto_region 1 with fail
 go_quiet ((go_at_call 119;exact Calls.quiet_of_same ((KD.out _).mono fun _ _ h=>⟨h.1,h.2.symm⟩)))
 generalize nq = n1
 go_upto_region 7 with (first | (go_at_call 73;refine (LC.out _ (by exact C0.out)).mono ?_;rintro e wv ⟨rfl,rfl⟩) | (go_at_call 119;refine (KD.out _).mono ?_;rintro e wv ⟨rfl,rfl⟩))
 go_quiet (fail)
 go_upto_region 9 with (first | (go_at_call 73;refine (LC.out _ (by exact C0.out)).mono ?_;rintro e wv ⟨rfl,rfl⟩) | (go_at_call 119;refine (KD.out _).mono ?_;rintro e wv ⟨rfl,rfl⟩))
 simp only [drewN2]
 have SR:=Lib.hid (SR0.out (n1 + nq))
 generalize hw0 : World.drewN w _ = w0 at SR ⊢
 clear hw0 SR0
 clear c17 c18 d hw KD LC C0
 go_loopg [] (ix + 1 - m) (fun left wr=>∃ (xs : List StA) (Hx : Nat → Option Obj),xs.length + left = ix + 1 - m ∧ Hid (SetIn Hx a { s with ss:=crL s.cl s.peer.sdata sd b xs m s.ss,g0:={ s.g0 with acc:=(m + xs.length : Nat) } } ∧ To W wr H Hx (s.foot a) (SetS.foot { s with ss:=crL s.cl s.peer.sdata sd b xs m s.ss,g0:={ s.g0 with acc:=(m + xs.length : Nat) } } a)))
 case atStart=>exact ⟨[],H,by simp,Lib.hid ⟨by simpa using SR.out.1,by simpa using SR.out.2⟩⟩
 case round=>
  obtain ⟨xs,Hx,hle,R⟩:=hrel
  have ca : wr.cell? ⟨a.sb,15,none⟩ = some (.int .i64 (m + xs.length : Nat)):=at_whole' (R.out.2.mem.at R.out.1.sb) rfl
  have cM:=R.out.1.c13 R.out.2.mem
  by_cases hlt : m + xs.length ≤ ix
  ·have e1 : bits .or .i64 (((m + xs.length : Nat) : Int) * 4) (b : Int) = ((4 * (m + xs.length) + b : Nat) : Int):=by
    rw [Int.mul_comm];exact or4_i64 (m + xs.length) b hb4 (by omega)
   have CR:=Lib.hid (create_any a _ Hx W wr (4 * (m + xs.length) + b) R.out.2.mem R.out.1 (by omega) HP.out.1 HP.out.2.1 sd HP.out.2.2.1 HP.out.2.2.2 (fun e he hc=>by
    rcases mem_crL he with he | ⟨i,h1,h2,h3⟩
    ·have:=HF.out e he (by omega);omega
    ·rw [h3] at hc;simp only [newStrm] at hc;omega) (by show (crL s.cl s.peer.sdata sd b xs m s.ss).length ≤ 900000;rw [length_crL];omega))
   unfold ptr at CR
   generalize hqq : m + xs.length = q at *
   have HQ:=Lib.hid hqq
   clear hqq
   go_upto_region 10 with fail
   go_wp2_with (go_at_call 57;refine CR.out.mono ?_;rintro e w5 ⟨rfl,H5,xa,T5,S5⟩;have cb:=at_whole' (T5.mem.at S5.sb) (show ((SetS.cells _ a)[15]? = some (.int .i64 (q : Int))) from rfl);have fb:=frozen_whole (T5.mem.at S5.sb) 15;have R5:=Lib.hid (And.intro T5 S5);clear T5 S5)
   have hsn : crL s.cl s.peer.sdata sd b (xs ++ [xa]) m s.ss = insS (xa,newStrm s.cl s.peer.sdata sd (4 * q + b)) (crL s.cl s.peer.sdata sd b xs m s.ss):=by rw [crL_snoc,HQ.out]
   have hcq : ((m + (xs ++ [xa]).length : Nat) : Int) = (q : Int) + 1:=by have:=HQ.out;simp;omega
   obtain ⟨H6,S6,T6⟩:=R5.out.2.set R5.out.1.mem (s':={ s with ss:=crL s.cl s.peer.sdata sd b (xs ++ [xa]) m s.ss,g0:={ s.g0 with acc:=(m + (xs ++ [xa]).length : Nat) } }) 15 (.int .i64 ((q : Int) + 1)) (by rw [hcq];rfl) hsn rfl rfl
   go_roundg (gk - 1)
   case measure=>have:=HQ.out;omega
   case rel=>exact ⟨xs ++ [xa],H6,by have:=HQ.out;simp;omega,Lib.hid ⟨S6,(R.out.2.trans R5.out.1).trans T6⟩⟩
  ·have hxl : xs.length = ix + 1 - m:=by omega
   have FN:=R.out.1.fnd R.out.2.mem id (by omega)
   have HX:=Lib.hid hxl
   obtain ⟨q,hq⟩ : ∃ q,m + xs.length = q:=⟨_,rfl⟩
   rw [hq] at ca
   have d2 : ((q : Int) ≤ (ix : Int)) = False:=eq_false (by omega)
   clear hxl hlt hle hq
   change _ = Result.ok (fndP (crL s.cl s.peer.sdata sd b xs m s.ss) id) wr at FN
   generalize hfp : fndP (crL s.cl s.peer.sdata sd b xs m s.ss) id = fp at FN
   have HFP:=Lib.hid hfp
   clear hfp
   go_wp2
   go_returns
   exact ⟨xs,HX.out,by rw [HFP.out];rfl,Hx,R.out.2,R.out.1⟩
theorem concerned_new1 (hs : SetIn H a s) (hm : Mem W w H) (id : Nat) (hid : id < 1152921504606846976) (hk : kindN id = 1) (hlc : isLoc s.cl id = false) (m : Nat) (hmo : s.g1.acc = m) (hi : (id : Int) / 4 < s.g1.gr + s.g1.fg) (hb : -9223372036854775808 ≤ s.g1.gr + s.g1.fg ∧ s.g1.gr + s.g1.fg ≤ 800000)
  (hp0 : 0 ≤ s.peer.sdata) (hp1 : s.peer.sdata ≤ 1073741824) (sd : Nat) (hl : s.loc.sdata = sd) (hl2 : sd ≤ 8192) (hmb : m ≤ 800000) (hfree : ∀ e ∈ s.ss,e.2.id % 4 = id % 4 → e.2.id / 4 < m) (hlen : s.ss.length + (id / 4 + 1 - m) ≤ 900000) :
  Calls Tryz.prog 71 #[ptr a.sb,.int .i64 id,.bool false] w fun e w'=>∃ xs : List StA,xs.length = id / 4 + 1 - m ∧ e = .returned (.tuple #[fndP (crL s.cl s.peer.sdata sd (id % 4) xs m s.ss) id,.int .i64 0]) ∧ ∃ H',To W w' H H' (s.foot a) (SetS.foot { s with ss:=crL s.cl s.peer.sdata sd (id % 4) xs m s.ss,g1:={ s.g1 with acc:=(m + xs.length : Nat) } } a) ∧ SetIn H' a { s with ss:=crL s.cl s.peer.sdata sd (id % 4) xs m s.ss,g1:={ s.g1 with acc:=(m + xs.length : Nat) } }:=by
 have c0 : w.cell? ⟨a.sb,0,none⟩ = some (.bool s.cl):=at_whole' (hm.at hs.sb) rfl
 have c17 : w.cell? ⟨a.sb,25,none⟩ = some (.int .i64 s.g1.gr):=at_whole' (hm.at hs.sb) rfl
 have c18 : w.cell? ⟨a.sb,26,none⟩ = some (.int .i64 s.g1.fg):=at_whole' (hm.at hs.sb) rfl
 have hw : IntKind.i64.wrap (s.g1.gr + s.g1.fg) = s.g1.gr + s.g1.fg:=IntWalk.i64_in _ (by omega)
 have KD:=Lib.hid (fun wx=>kind_any id (by omega) wx)
 have LC:=Lib.hid (fun wx (hc : wx.cell? ⟨a.sb,0,none⟩ = some (.bool s.cl))=>local_any a.sb id s.cl (by omega) wx hc)
 have C0:=Lib.hid c0
 obtain ⟨ix,hix⟩ : ∃ ix : Nat,id / 4 = ix:=⟨_,rfl⟩
 obtain ⟨b,hbb⟩ : ∃ b : Nat,id % 4 = b:=⟨_,rfl⟩
 have hixc : (id : Int) / 4 = (ix : Int):=by omega
 have d : decide (s.g1.gr + s.g1.fg ≤ (ix : Int)) = false:=decide_eq_false (by omega)
 have ea : bits .and .i64 (id : Int) 3 = (b : Int):=by rw [and3_i64 id (by omega),hbb]
 have hb4 : b < 4:=by omega
 have hixb : ix < 800000:=by omega
 have SR0 : Hid (∀ n,SetIn H a { s with ss:=crL s.cl s.peer.sdata sd b [] m s.ss,g1:={ s.g1 with acc:=(m : Nat) } } ∧ To W (w.drewN n) H H (s.foot a) (SetS.foot { s with ss:=crL s.cl s.peer.sdata sd b [] m s.ss,g1:={ s.g1 with acc:=(m : Nat) } } a)):=Lib.hid (fun n=>by
  have e : ({ s with ss:=crL s.cl s.peer.sdata sd b [] m s.ss,g1:={ s.g1 with acc:=(m : Nat) } } : SetS) = s:=by rw [← hmo];rfl
  rw [e];exact ⟨hs,(To.refl hm _).same (belowN (Below.refl _ w) n)⟩)
 rw [hbb] at hfree ⊢
 rw [hix] at hlen ⊢
 rw [hk] at KD
 rw [hlc] at LC
 have HF:=Lib.hid hfree
 have HP:=Lib.hid (And.intro hp0 (And.intro hp1 (And.intro hl hl2)))
 have HC:=Lib.hid (And.intro hlc hk)
 have HMX:=Lib.hid (And.intro hix hbb)
 clear hs hm hk hlc c0 hi hb hmo hfree hp0 hp1 hl hl2
 simp only [show ((1 : Nat) : Int) = 1 from rfl] at KD
 unfold ptr
 go_enter Tryz.func71,Tryz.ntmps71
 go_upto_region 1 with fail
 go_quiet ((go_at_call 119;exact Calls.quiet_of_same ((KD.out _).mono fun _ _ h=>⟨h.1,h.2.symm⟩)))
 generalize nq = n1
 go_upto_region 7 with (first | (go_at_call 73;refine (LC.out _ (by exact C0.out)).mono ?_;rintro e wv ⟨rfl,rfl⟩) | (go_at_call 119;refine (KD.out _).mono ?_;rintro e wv ⟨rfl,rfl⟩))
 go_quiet (fail)
 go_upto_region 9 with (first | (go_at_call 73;refine (LC.out _ (by exact C0.out)).mono ?_;rintro e wv ⟨rfl,rfl⟩) | (go_at_call 119;refine (KD.out _).mono ?_;rintro e wv ⟨rfl,rfl⟩))
 simp only [drewN2]
 have SR:=Lib.hid (SR0.out (n1 + nq))
 generalize hw0 : World.drewN w _ = w0 at SR ⊢
 clear hw0 SR0
 clear c17 c18 d hw KD LC C0
 go_loopg [] (ix + 1 - m) (fun left wr=>∃ (xs : List StA) (Hx : Nat → Option Obj),xs.length + left = ix + 1 - m ∧ Hid (SetIn Hx a { s with ss:=crL s.cl s.peer.sdata sd b xs m s.ss,g1:={ s.g1 with acc:=(m + xs.length : Nat) } } ∧ To W wr H Hx (s.foot a) (SetS.foot { s with ss:=crL s.cl s.peer.sdata sd b xs m s.ss,g1:={ s.g1 with acc:=(m + xs.length : Nat) } } a)))
 case atStart=>exact ⟨[],H,by simp,Lib.hid ⟨by simpa using SR.out.1,by simpa using SR.out.2⟩⟩
 case round=>
  obtain ⟨xs,Hx,hle,R⟩:=hrel
  have ca : wr.cell? ⟨a.sb,23,none⟩ = some (.int .i64 (m + xs.length : Nat)):=at_whole' (R.out.2.mem.at R.out.1.sb) rfl
  have cM:=R.out.1.c13 R.out.2.mem
  by_cases hlt : m + xs.length ≤ ix
  ·have e1 : bits .or .i64 (((m + xs.length : Nat) : Int) * 4) (b : Int) = ((4 * (m + xs.length) + b : Nat) : Int):=by
    rw [Int.mul_comm];exact or4_i64 (m + xs.length) b hb4 (by omega)
   have CR:=Lib.hid (create_any a _ Hx W wr (4 * (m + xs.length) + b) R.out.2.mem R.out.1 (by omega) HP.out.1 HP.out.2.1 sd HP.out.2.2.1 HP.out.2.2.2 (fun e he hc=>by
    rcases mem_crL he with he | ⟨i,h1,h2,h3⟩
    ·have:=HF.out e he (by omega);omega
    ·rw [h3] at hc;simp only [newStrm] at hc;omega) (by show (crL s.cl s.peer.sdata sd b xs m s.ss).length ≤ 900000;rw [length_crL];omega))
   unfold ptr at CR
   generalize hqq : m + xs.length = q at *
   have HQ:=Lib.hid hqq
   clear hqq
   go_upto_region 10 with fail
   go_wp2_with (go_at_call 57;refine CR.out.mono ?_;rintro e w5 ⟨rfl,H5,xa,T5,S5⟩;have cb:=at_whole' (T5.mem.at S5.sb) (show ((SetS.cells _ a)[23]? = some (.int .i64 (q : Int))) from rfl);have fb:=frozen_whole (T5.mem.at S5.sb) 23;have R5:=Lib.hid (And.intro T5 S5);clear T5 S5)
   have hsn : crL s.cl s.peer.sdata sd b (xs ++ [xa]) m s.ss = insS (xa,newStrm s.cl s.peer.sdata sd (4 * q + b)) (crL s.cl s.peer.sdata sd b xs m s.ss):=by rw [crL_snoc,HQ.out]
   have hcq : ((m + (xs ++ [xa]).length : Nat) : Int) = (q : Int) + 1:=by have:=HQ.out;simp;omega
   obtain ⟨H6,S6,T6⟩:=R5.out.2.set R5.out.1.mem (s':={ s with ss:=crL s.cl s.peer.sdata sd b (xs ++ [xa]) m s.ss,g1:={ s.g1 with acc:=(m + (xs ++ [xa]).length : Nat) } }) 23 (.int .i64 ((q : Int) + 1)) (by rw [hcq];rfl) hsn rfl rfl
   go_roundg (gk - 1)
   case measure=>have:=HQ.out;omega
   case rel=>exact ⟨xs ++ [xa],H6,by have:=HQ.out;simp;omega,Lib.hid ⟨S6,(R.out.2.trans R5.out.1).trans T6⟩⟩
  ·have hxl : xs.length = ix + 1 - m:=by omega
   have FN:=R.out.1.fnd R.out.2.mem id (by omega)
   have HX:=Lib.hid hxl
   obtain ⟨q,hq⟩ : ∃ q,m + xs.length = q:=⟨_,rfl⟩
   rw [hq] at ca
   have d2 : ((q : Int) ≤ (ix : Int)) = False:=eq_false (by omega)
   clear hxl hlt hle hq
   change _ = Result.ok (fndP (crL s.cl s.peer.sdata sd b xs m s.ss) id) wr at FN
   generalize hfp : fndP (crL s.cl s.peer.sdata sd b xs m s.ss) id = fp at FN
   have HFP:=Lib.hid hfp
   clear hfp
   go_wp2
   go_returns
   exact ⟨xs,HX.out,by rw [HFP.out];rfl,Hx,R.out.2,R.out.1⟩
end
end
section
open Go.RowKit
section
variable {W w : World} {H : Nat → Option Obj} {a : SetA} {s : SetS}
theorem concerned_old0 (hs : SetIn H a s) (hm : Mem W w H) (id : Nat) (hid : id < 9223372036854775808) (snd : Bool) {xa : StA} {x : Strm} (he : (xa,x) ∈ s.ss) (hid2 : x.id = id) (hk : kindN id = 0) (hlc : isLoc s.cl id = true) (hi : (id : Int) / 4 < s.g0.opn) :
  Calls Tryz.prog 71 #[ptr a.sb,.int .i64 id,.bool snd] w fun e w'=>e = .returned (.tuple #[ptr xa.xb,.int .i64 0]) ∧ ∃ n,w' = w.drewN n:=by
 have c0 : w.cell? ⟨a.sb,0,none⟩ = some (.bool s.cl):=at_whole' (hm.at hs.sb) rfl
 have c14 : w.cell? ⟨a.sb,14,none⟩ = some (.int .i64 s.g0.opn):=at_whole' (hm.at hs.sb) rfl
 have hl:=fun n=>hs.look (hm.same (belowN (Below.refl _ w) n)) he
 have c13:=hs.c13 hm
 have KD:=Lib.hid (fun wx=>kind_any id hid wx)
 have LC:=Lib.hid (fun wx (hc : wx.cell? ⟨a.sb,0,none⟩ = some (.bool s.cl))=>local_any a.sb id s.cl hid wx hc)
 rw [hk] at KD
 rw [hlc] at LC
 have C0:=Lib.hid c0
 have d : decide (s.g0.opn ≤ (id : Int) / 4) = false:=decide_eq_false (by omega)
 subst hid2
 clear hs hm hk hlc c0 hi he
 simp only [show ((0 : Nat) : Int) = 0 from rfl] at KD
 unfold ptr
 go_enter Tryz.func71,Tryz.ntmps71
 go_upto_region 1 with fail
 go_quiet ((go_at_call 119;exact Calls.quiet_of_same ((KD.out _).mono fun _ _ h=>⟨h.1,h.2.symm⟩)))
 go_upto_region 9 with (first | (go_at_call 73;refine (LC.out _ (by exact C0.out)).mono ?_;rintro e wv ⟨rfl,rfl⟩) | (go_at_call 119;refine (KD.out _).mono ?_;rintro e wv ⟨rfl,rfl⟩))
 go_quiet (fail)
 go_wp2_with fail
 refine wp_loop_rounds 1 ?_
 rw [rounds_succ]
 go_wp2_with fail
 go_returns
 exact ⟨rfl,_,rfl⟩
end
end
end Go.Proofs.YthckbmcmdcemkaaGreatDoor.stm
