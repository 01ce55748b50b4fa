/- Texts of this claim, one behind the other: FEc FEd. -/
import Derived.Test.YthckbmcmdcemkaaGreatDoorBs7
import Derived.Deep.RegionWith
import Derived.Deep.CutRange
import Derived.Defers
import Derived.Recover
set_option maxRecDepth 100000
set_option maxHeartbeats 16000000
set_option linter.unusedSimpArgs false
set_option linter.unusedVariables false
namespace Go.Proofs.YthckbmcmdcemkaaGreatDoor.frm
section
open Go.RowKit Go.Maps
theorem convK (k : Int) (hk : 0 ≤ k ∧ k ≤ 255) (b : Nat) (w : World) (h : w.heap[b]? = some (.cells #[.int .u8 k] 5 (0,0))) : (convert 52 9 (.slice (some ⟨b,0,none⟩) 1 1)).run Tryz.prog w = .ok (.string (strOfNums [k])) w:=
 run_convert_bytes_arg (P:=Tryz.prog) w 52 5 Tryz.underlying52 Tryz.underlying5 b 0 1 1 [k] rfl (fun i hi=>by
  have e : i = 0:=by omega
  subst e
  exact at_whole h 0 rfl) 9 Tryz.underlying9
structure Ebs (w1 : World) (cs : Array Value) (W : World) : Prop where
 new : W.heap[w1.heap.size]? = some (.cells cs 38 (0,0))
 bel : Below w1.heap.size w1 W
theorem Ebs.below {w1 W W' : World} {cs : Array Value} (h : Ebs w1 cs W) (hb : Below W.heap.size W W') : Ebs w1 cs W':=⟨heap_below hb h.new,h.bel.trans (hb.mono h.bel.size)⟩
theorem Ebs.alloc {w1 W : World} {cs : Array Value} (h : Ebs w1 cs W) (o : Obj) : Ebs w1 cs (W.alloc o):=h.below (bz0.alloc (Nat.le_refl _) _)
theorem Ebs.set {w1 W : World} {cs : Array Value} (h : Ebs w1 cs W) (i : Nat) (v : Value) : Ebs w1 (cs.setIfInBounds i v) (W.setCell ⟨w1.heap.size,i,none⟩ v):=⟨heap_set v h.new,h.bel.setCell (p:=⟨w1.heap.size,i,none⟩) (Nat.le_refl _) _⟩
theorem Ebs.old {w1 W : World} {cs : Array Value} (h : Ebs w1 cs W) {k : Nat} {o : Obj} (hk : w1.heap[k]? = some o) : W.heap[k]? = some o:=heap_below h.bel hk
theorem size38e : (Tryz.prog.info? 38).map (·.size) = some 13:=by kernel_rfl
theorem same_bare (ty : Int) (w : World) : Calls Tryz.prog 156 #[(bare ty).val,(bare ty).val] w fun e w'=>e = .returned (.bool true) ∧ Below w.heap.size w w':=by
 have c:=box2 w (.cells (bare ty).cells 38) (.cells (bare ty).cells 38)
 have C:=Lib.hid c
 clear c
 unfold Fr.val Fr.cells bare at *
 go_enter Tryz.func156,Tryz.ntmps156
 go_wp2_with (go_at_call 225;refine (equal_nil _).mono ?_;rintro e w' ⟨rfl,rfl⟩)
 go_ret
 exact ⟨rfl,C.out.2.2.1⟩
theorem cV_len (n : Int) : (strOfNums (encV n)).size ≤ 8:=by rw [strOf_size];exact encV_len n
def accB (f : Fr) (ks : List PK) : ByteArray:=ks.foldl (fun a k=>a ++ putP f k) (strOfNums [headB f])
def accR (f : Fr) (ks : List PK) : Fr:=ks.foldl zap { f with fin:=false }
theorem putP_len (f : Fr) (k : PK) (h : partOk f k) : (putP f k).size ≤ 1032:=by
 cases k with
 | int p=>have:=cV_len (Fr.num f p);show (strOfNums (encV (Fr.num f p))).size ≤ 1032;omega
 | txt=>obtain ⟨_,_,h⟩:=h;have:=cV_len f.s.size;show (strOfNums (encV f.s.size) ++ f.s).size ≤ 1032;rw [ByteArray.size_append];omega
 | uni=>show (strOfNums _).size ≤ 1032;rw [strOf_size];simp
theorem accB_succ (f : Fr) (ks : List PK) (q : Nat) (k : PK) (h : ks[q]? = some k) : accB f (ks.take (q + 1)) = accB f (ks.take q) ++ putP f k:=by
 obtain ⟨hl,rfl⟩:=List.getElem?_eq_some_iff.1 h
 unfold accB
 rw [List.take_succ_eq_append_getElem hl,List.foldl_append]
 rfl
theorem accR_succ (f : Fr) (ks : List PK) (q : Nat) (k : PK) (h : ks[q]? = some k) : accR f (ks.take (q + 1)) = zap (accR f (ks.take q)) k:=by
 obtain ⟨hl,rfl⟩:=List.getElem?_eq_some_iff.1 h
 unfold accR
 rw [List.take_succ_eq_append_getElem hl,List.foldl_append]
 rfl
theorem zap_set (f : Fr) (p : Nat) (h1 : 1 ≤ p) (h7 : p ≤ 7) : f.cells.setIfInBounds (fCell p) (.int .i64 0) = (zapN f p).cells ∧ ∃ x,f.cells[fCell p]? = some (.int .i64 x):=by
 have hp : p = 1 ∨ p = 2 ∨ p = 3 ∨ p = 4 ∨ p = 5 ∨ p = 6 ∨ p = 7:=by omega
 rcases hp with rfl | rfl | rfl | rfl | rfl | rfl | rfl <;> exact ⟨rfl,_,rfl⟩
theorem num_cell (f : Fr) (p : Nat) (h1 : 1 ≤ p) (h7 : p ≤ 7) : f.cells[fCell p]? = some (.int .i64 (Fr.num f p)):=by
 have hp : p = 1 ∨ p = 2 ∨ p = 3 ∨ p = 4 ∨ p = 5 ∨ p = 6 ∨ p = 7:=by omega
 rcases hp with rfl | rfl | rfl | rfl | rfl | rfl | rfl <;> rfl
theorem fLim_le (p : Nat) : fLim p ≤ 4611686018427387903:=by
 unfold fLim;split <;> omega
theorem encode_false (f : Fr) (w : World) (hv : FrV f) (hfin : f.fin = false) : Calls Tryz.prog 95 #[f.val] w fun e w'=>e = .returned (.string (encS f)) ∧ Below w.heap.size w w':=by
 have hcs : f.cells = #[.int .i64 f.ty,.int .i64 f.str,.int .i64 f.off,.string f.s,.bool false,.int .i64 f.max,.int .i64 f.code,.bool f.uni,.int .i64 f.delay,.slice none 0 0,.int .i64 f.seq,.int .i64 f.retire,.string f.cid]:=by unfold Fr.cells;rw [hv.rg,hfin]
 have hrs : (accR f []).cells = #[.int .i64 f.ty,.int .i64 f.str,.int .i64 f.off,.string f.s,.bool false,.int .i64 f.max,.int .i64 f.code,.bool f.uni,.int .i64 f.delay,.slice none 0 0,.int .i64 f.seq,.int .i64 f.retire,.string f.cid]:=by unfold accR Fr.cells;simp only [List.foldl_nil,hv.rg]
 have X:=Lib.hid (box1 w (.cells f.cells 38))
 have XC:=Lib.hid (fun (W : World) (h : W.heap[w.heap.size]? = some (.cells f.cells 38 (0,0)))=>(show W.cell? ⟨w.heap.size,0,none⟩ = some (.int .i64 f.ty) ∧ W.cell? ⟨w.heap.size,4,none⟩ = some (.bool false) from ⟨at_whole h 0 (by rw [hcs];rfl),at_whole h 4 (by rw [hcs];rfl)⟩))
 have PT:=Lib.hid (parts_ty f.ty (by have:=hv.ty;omega))
 have HV:=Lib.hid hv
 have HC:=Lib.hid hcs
 have HR:=Lib.hid hrs
 have hkt : (0 : Int) ≤ f.ty ∧ (f.ty : Int) ≤ 255:=by have:=hv.ty;omega
 have hk8 : IntKind.u8.wrap f.ty = f.ty:=IntWalk.u8_in _ (by omega)
 have HK:=Lib.hid hkt
 have hhd : headB f = f.ty:=by unfold headB;rw [hfin];rfl
 have HH:=Lib.hid hhd
 obtain ⟨ks,hks⟩ : ∃ ks,kinds f.ty = ks:=⟨_,rfl⟩
 rw [hks] at PT
 have HKS:=Lib.hid hks
 have hkl : ks.length ≤ 3:=by rw [← hks];unfold kinds;(repeat' split) <;> simp
 unfold Fr.val
 rw [hcs] at X XC ⊢
 have x0:=XC.out _ X.out.1
 obtain ⟨x0,x4⟩:=x0
 clear hv hcs hrs hkt hhd hks hfin 
 go_enter Tryz.func95,Tryz.ntmps95
 go_upto_region 1 with fail
 generalize hV : w.alloc _ = V at X x0 x4 ⊢
 clear hV
 go_cut [3,4] from 10 to 16 (fun s3 s4 w1=>s4 = .bool true ∧ ∃ g,s3 = .slice (some ⟨g,0,none⟩) ks.length ks.length ∧ Hid (w1.heap[w.heap.size]? = some (.cells #[.int .i64 f.ty,.int .i64 f.str,.int .i64 f.off,.string f.s,.bool false,.int .i64 f.max,.int .i64 f.code,.bool f.uni,.int .i64 f.delay,.slice none 0 0,.int .i64 f.seq,.int .i64 f.retire,.string f.cid] 38 (0,0)) ∧ Row w1 g ks ∧ Below w.heap.size w w1))
 case first=>
  go_region_with ((go_at_call 96;refine (PT.out _).mono ?_;rintro e w1 ⟨M,g,rfl,hb,hg,hlook⟩;have hx:=Lib.hid (heap_below (below_drew hb) X.out.1);have y0:=(XC.out _ hx.out).1;have y4:=(XC.out _ hx.out).2;have G1:=Lib.hid hg;have HB:=Lib.hid (btrans X.out.2.1 (below_drew hb));clear hb hg))
  all_goals
   go_wp2_with fail
   go_meet
   exact ⟨rfl,g,rfl,Lib.hid ⟨hx.out,G1.out,HB.out⟩⟩
 case rest=>
  obtain ⟨rfl,g,rfl,HW⟩:=hcut
  have hx:=Lib.hid HW.out.1
  have G1:=Lib.hid HW.out.2.1
  have HB:=Lib.hid HW.out.2.2
  have y0:=(XC.out _ hx.out).1
  have y4:=(XC.out _ hx.out).2
  clear HW X x0 x4
  generalize wc = w1 at *
  go_wp2_with (first | (refine wpList_load_row rfl 38 _ rfl w.heap.size rfl 38 _ (0,0) _ hx.out Tryz.underlying38 rfl size38e ?_) | (refine wpList_store_row rfl 38 _ _ rfl w1.heap.size _ rfl rfl 38 _ (heap_alloc_new _ _) size38e rfl rfl ?_;rw [World.setRow_alloc_new]))
  have F2:=Lib.hid (box2 w1 (.cells #[.int .i64 f.ty,.int .i64 f.str,.int .i64 f.off,.string f.s,.bool false,.int .i64 f.max,.int .i64 f.code,.bool f.uni,.int .i64 f.delay,.slice none 0 0,.int .i64 f.seq,.int .i64 f.retire,.string f.cid] 38) (.cells #[.int .u8 f.ty] 5))
  generalize (w1.alloc _).alloc _ = W2 at F2 ⊢
  rw [convK f.ty HK.out _ _ F2.out.2.1]
  simp only [Result.andThen]
  rw [Oper.upon_value]
  have E2:=Lib.hid (Ebs.mk F2.out.1 F2.out.2.2.1)
  have hz : (strOfNums [f.ty]).size = 1:=by rw [strOf_size];rfl
  have HS0 : Hid (accB f [] = strOfNums [f.ty]):=Lib.hid (by unfold accB;rw [HH.out];rfl)
  rw [← HR.out] at E2
  generalize strOfNums [f.ty] = s0 at *
  clear F2 y0 y4 XC
  go_wp2
  go_loopw [7,44] (fun s i wr=>∃ q : Nat,q ≤ ks.length ∧ i = .int .i64 q ∧ s = .string (accB f (ks.take q)) ∧ (accB f (ks.take q)).size ≤ 1 + 1032 * q ∧ Ebs w1 (accR f (ks.take q)).cells wr) (fun _ i _=>ks.length - (intOf i).toNat)
  case atStart=>exact ⟨0,by omega,rfl,by rw [List.take_zero,HS0.out],by rw [List.take_zero,HS0.out,hz];omega,E2.out⟩
  case round=>
   obtain ⟨q,hq,rfl,rfl,hsz,hE⟩:=hrel
   have E:=Lib.hid hE
   clear hE E2
   by_cases hlt : q < ks.length
   ·obtain ⟨kk,hkk⟩ : ∃ kk,ks[q]? = some kk:=⟨_,List.getElem?_eq_getElem hlt⟩
    have PA:=(G1.out q kk hkk).below E.out.bel
    have PO:=HV.out.ok kk (by rw [HKS.out];exact List.mem_of_getElem? hkk)
    have SB:=Lib.hid (accB_succ f ks q kk hkk)
    have SR:=Lib.hid (accR_succ f ks q kk hkk)
    have PL:=putP_len f kk PO
    have hu : (accB f (ks.take q) ++ putP f kk).size ≤ 1 + 1032 * (q + 1):=by rw [ByteArray.size_append];omega
    have HU:=Lib.hid hu
    have zz : (9223372036854775807 < (accB f (ks.take q)).size + (putP f kk).size) = False:=eq_false (by omega)
    clear hu PL hkk hsz
    generalize accB f (ks.take q) = ss at *
    generalize accR f (ks.take q) = rr at *
    obtain ⟨st,hst⟩ : ∃ st,putP f kk = st:=⟨_,rfl⟩
    rw [hst] at SB zz HU
    cases kk with
    | int p=>
     obtain ⟨p1,p7,n,pa,pb,pc,pd,pe⟩:=PA
     have ZS:=Lib.hid (zap_set rr p p1 p7)
     have PI:=Lib.hid (And.intro PO.1 (And.intro PO.2 (Int.le_trans PO.2 (fLim_le p))))
     have NC:=Lib.hid (num_cell f p p1 p7)
     have PD:=Lib.hid (And.intro pd pe)
     have PB:=Lib.hid (And.intro p1 p7)
     have HST : Hid (strOfNums (encV (Fr.num f p)) = st):=Lib.hid hst
     generalize fLim p = lim at *
     generalize Fr.num f p = d at *
     clear p1 p7 pd pe PO hst
     simp only [zap] at SR
     generalize zapN rr p = zr at *
     go_wp2_with fail
     have EA:=Lib.hid (E.out.alloc (.cells (intP n) 241))
     have PA2:=Lib.hid (heap_alloc_new wr (.cells (intP n) 241))
     have BA:=Lib.hid ((Below.refl wr.heap.size wr).alloc (Nat.le_refl _) (.cells (intP n) 241))
     simp only [intP] at EA PA2 BA
     generalize wr.alloc _ = WA at EA PA2 BA ⊢
     have pd:=(BA.out.cell (p:=⟨n,0,none⟩) (World.block_lt_of_cell? _ _ PD.out.1)).trans PD.out.1
     have pe:=(BA.out.cell (p:=⟨n + 1,0,none⟩) (World.block_lt_of_cell? _ _ PD.out.2)).trans PD.out.2
     have PP:=putI_any w.heap.size n p d WA PB.out.1 PB.out.2 lim PI.out.1 PI.out.2.1 PI.out.2.2 ((cell_whole (EA.out.old hx.out) _).trans (by rw [← HC.out];exact NC.out)) pe pd
     rw [HST.out] at PP
     refine PP.mono ?_
     clear PP
     rintro e WB ⟨rfl,hb⟩
     have EB:=Lib.hid (EA.out.below hb)
     have rc:=at_whole (heap_below hb PA2.out) 2 rfl
     have pe2:=Lib.hid ((hb.cell (p:=⟨n + 1,0,none⟩) (World.block_lt_of_cell? _ _ pe)).trans pe)
     simp only [List.getElem_toArray,List.getElem_cons_zero,List.getElem_cons_succ] at rc
     clear EA hb pa pb pc PA2 pd pe BA PD
     go_wp2_with fail
     obtain ⟨xx,hxx⟩:=ZS.out.2
     refine (clearI_any w1.heap.size n p _ _ _ PB.out.1 PB.out.2 EB.out.new hxx pe2.out).mono ?_
     rintro e WC ⟨rfl,rfl⟩
     have EC:=Lib.hid (EB.out.set (fCell p) (.int .i64 0))
     rw [ZS.out.1] at EC
     generalize WB.setCell _ _ = WD at EC ⊢
     clear EB rc zz hxx pe2
     go_wp2
     go_roundw
     case rel=>exact ⟨q + 1,by omega,by go_num,by rw [SB.out],by rw [SB.out];exact HU.out,by rw [SR.out];exact EC.out⟩
     case measure=>simp [intOf];omega
    | txt=>
     obtain ⟨n,pa,pb,pc,pd,pe⟩:=PA
     have PD:=Lib.hid (And.intro pd pe)
     have PI:=Lib.hid PO
     have HST : Hid (strOfNums (encV f.s.size) ++ f.s = st):=Lib.hid hst
     unfold fnv at pb pc
     clear pd pe PO hst
     simp only [zap] at SR
     go_wp2_with fail
     have EA:=Lib.hid (E.out.alloc (.cells (txtP n) 241))
     have PA2:=Lib.hid (heap_alloc_new wr (.cells (txtP n) 241))
     have BA:=Lib.hid ((Below.refl wr.heap.size wr).alloc (Nat.le_refl _) (.cells (txtP n) 241))
     simp only [txtP,fnv] at EA PA2 BA
     generalize wr.alloc _ = WA at EA PA2 BA ⊢
     have pd:=(BA.out.cell (p:=⟨n,0,none⟩) (World.block_lt_of_cell? _ _ PD.out.1)).trans PD.out.1
     have pe:=(BA.out.cell (p:=⟨n + 1,0,none⟩) (World.block_lt_of_cell? _ _ PD.out.2)).trans PD.out.2
     have PP:=putS_any w.heap.size n f.off f.s 1024 WA PI.out.1 PI.out.2.1 (by have:=PI.out.2.2;omega) (at_whole (EA.out.old hx.out) 2 rfl) (at_whole (EA.out.old hx.out) 3 rfl) pd pe
     rw [HST.out] at PP
     refine PP.mono ?_
     clear PP
     rintro e WB ⟨rfl,hb⟩
     have EB:=Lib.hid (EA.out.below hb)
     have rc:=at_whole (heap_below hb PA2.out) 2 rfl
     simp only [List.getElem_toArray,List.getElem_cons_zero,List.getElem_cons_succ] at rc
     clear EA hb pa pb pc PA2 pd pe BA PD
     go_wp2_with fail
     refine (clearS_any w1.heap.size _ _ _ EB.out.new rfl).mono ?_
     rintro e WC ⟨rfl,rfl⟩
     have EC:=Lib.hid (EB.out.set 3 (.string ⟨#[]⟩))
     have EC : Hid (Ebs w1 (Fr.cells { rr with s:=⟨#[]⟩ }) (WB.setCell ⟨w1.heap.size,3,none⟩ (.string ⟨#[]⟩))):=Lib.hid EC.out
     generalize WB.setCell _ _ = WD at EC ⊢
     clear EB rc zz
     go_wp2
     go_roundw
     case rel=>exact ⟨q + 1,by omega,by go_num,by rw [SB.out],by rw [SB.out];exact HU.out,by rw [SR.out];exact EC.out⟩
     case measure=>simp [intOf];omega
    | uni=>
     obtain ⟨pa,pb,pc⟩:=PA
     have HST : Hid (strOfNums [if f.uni then 1 else 0] = st):=Lib.hid hst
     unfold fnv at pa pb pc
     clear PO hst
     simp only [zap] at SR
     go_wp2_with fail
     have EA:=Lib.hid (E.out.alloc (.cells uniP 241))
     have PA2:=Lib.hid (heap_alloc_new wr (.cells uniP 241))
     simp only [uniP,fnv] at EA PA2
     generalize wr.alloc _ = WA at EA PA2 ⊢
     have PP:=putU_any w.heap.size f.uni WA (at_whole (EA.out.old hx.out) 7 rfl)
     rw [HST.out] at PP
     refine PP.mono ?_
     clear PP
     rintro e WB ⟨rfl,rfl⟩
     have rc:=at_whole PA2.out 2 rfl
     simp only [List.getElem_toArray,List.getElem_cons_zero,List.getElem_cons_succ] at rc
     clear pa pb pc PA2
     go_wp2_with fail
     refine (clearU_any w1.heap.size _ _ _ EA.out.new rfl).mono ?_
     rintro e WC ⟨rfl,rfl⟩
     have EC:=Lib.hid (EA.out.set 7 (.bool false))
     have EC : Hid (Ebs w1 (Fr.cells { rr with uni:=false }) (WB.setCell ⟨w1.heap.size,7,none⟩ (.bool false))):=Lib.hid EC.out
     generalize WB.setCell _ _ = WD at EC ⊢
     clear EA rc zz
     go_wp2
     go_roundw
     case rel=>exact ⟨q + 1,by omega,by go_num,by rw [SB.out],by rw [SB.out];exact HU.out,by rw [SR.out];exact EC.out⟩
     case measure=>simp [intOf];omega
   ·obtain rfl : q = ks.length:=by omega
    rw [List.take_length] at E hsz ⊢
    have hbr : accR f ks = bare f.ty:=by rw [← HKS.out];exact HV.out.bare
    have hen : accB f ks = encS f:=by rw [← HKS.out];rfl
    rw [hbr] at E
    rw [hen]
    have x0:=at_whole (E.out.old hx.out) 0 rfl
    simp only [List.getElem_toArray,List.getElem_cons_zero] at x0
    have SB:=Lib.hid (same_bare f.ty)
    unfold Fr.val at SB
    have hbc : (bare f.ty).cells = #[.int .i64 f.ty,.int .i64 0,.int .i64 0,.string ⟨#[]⟩,.bool false,.int .i64 0,.int .i64 0,.bool false,.int .i64 0,.slice none 0 0,.int .i64 0,.int .i64 0,.string ⟨#[]⟩]:=rfl
    rw [hbc] at SB E
    clear hlt hbr hen hsz hbc
    go_wp2_with (first | (refine wpList_load_row rfl 38 _ rfl w1.heap.size rfl 38 _ (0,0) _ E.out.new Tryz.underlying38 rfl size38e ?_) | (go_at_call 156;refine (SB.out _).mono ?_;rintro e W9 ⟨rfl,hb9⟩))
    go_ret
    exact ⟨rfl,HB.out.trans ((E.out.below hb9).bel.mono HB.out.size)⟩
theorem encode_true (f : Fr) (w : World) (hv : FrV f) (hty : f.ty = 8) (hfin : f.fin = true) : Calls Tryz.prog 95 #[f.val] w fun e w'=>e = .returned (.string (encS f)) ∧ Below w.heap.size w w':=by
 have hcs : f.cells = #[.int .i64 8,.int .i64 f.str,.int .i64 f.off,.string f.s,.bool true,.int .i64 f.max,.int .i64 f.code,.bool f.uni,.int .i64 f.delay,.slice none 0 0,.int .i64 f.seq,.int .i64 f.retire,.string f.cid]:=by unfold Fr.cells;rw [hv.rg,hfin,hty]
 have hrs : (accR f []).cells = #[.int .i64 8,.int .i64 f.str,.int .i64 f.off,.string f.s,.bool false,.int .i64 f.max,.int .i64 f.code,.bool f.uni,.int .i64 f.delay,.slice none 0 0,.int .i64 f.seq,.int .i64 f.retire,.string f.cid]:=by unfold accR Fr.cells;simp only [List.foldl_nil,hv.rg,hty]
 have X:=Lib.hid (box1 w (.cells f.cells 38))
 have XC:=Lib.hid (fun (W : World) (h : W.heap[w.heap.size]? = some (.cells f.cells 38 (0,0)))=>(show W.cell? ⟨w.heap.size,0,none⟩ = some (.int .i64 8) ∧ W.cell? ⟨w.heap.size,4,none⟩ = some (.bool true) from ⟨at_whole h 0 (by rw [hcs];rfl),at_whole h 4 (by rw [hcs];rfl)⟩))
 have PT:=Lib.hid (parts_ty 8 (by have:=hv.ty;omega))
 have HV:=Lib.hid hv
 have HTY:=Lib.hid hty
 have HC:=Lib.hid hcs
 have HR:=Lib.hid hrs
 have hkt : (0 : Int) ≤ 9 ∧ (9 : Int) ≤ 255:=by have:=hv.ty;omega
 have hk8 : IntKind.u8.wrap 9 = 9:=IntWalk.u8_in _ (by omega)
 have HK:=Lib.hid hkt
 have hhd : headB f = 9:=by unfold headB;rw [hfin];rfl
 have HH:=Lib.hid hhd
 obtain ⟨ks,hks⟩ : ∃ ks,kinds 8 = ks:=⟨_,rfl⟩
 rw [hks] at PT
 have HKS:=Lib.hid hks
 have hkl : ks.length ≤ 3:=by rw [← hks];unfold kinds;(repeat' split) <;> simp
 unfold Fr.val
 rw [hcs] at X XC ⊢
 have x0:=XC.out _ X.out.1
 obtain ⟨x0,x4⟩:=x0
 clear hv hcs hrs hkt hhd hks hfin hty
 go_enter Tryz.func95,Tryz.ntmps95
 go_upto_region 1 with fail
 generalize hV : w.alloc _ = V at X x0 x4 ⊢
 clear hV
 go_cut [3,4] from 10 to 16 (fun s3 s4 w1=>s4 = .bool true ∧ ∃ g,s3 = .slice (some ⟨g,0,none⟩) ks.length ks.length ∧ Hid (w1.heap[w.heap.size]? = some (.cells #[.int .i64 8,.int .i64 f.str,.int .i64 f.off,.string f.s,.bool true,.int .i64 f.max,.int .i64 f.code,.bool f.uni,.int .i64 f.delay,.slice none 0 0,.int .i64 f.seq,.int .i64 f.retire,.string f.cid] 38 (0,0)) ∧ Row w1 g ks ∧ Below w.heap.size w w1))
 case first=>
  go_region_with ((go_at_call 96;refine (PT.out _).mono ?_;rintro e w1 ⟨M,g,rfl,hb,hg,hlook⟩;have hx:=Lib.hid (heap_below (below_drew hb) X.out.1);have y0:=(XC.out _ hx.out).1;have y4:=(XC.out _ hx.out).2;have G1:=Lib.hid hg;have HB:=Lib.hid (btrans X.out.2.1 (below_drew hb));clear hb hg))
  all_goals
   go_wp2_with fail
   go_meet
   exact ⟨rfl,g,rfl,Lib.hid ⟨hx.out,G1.out,HB.out⟩⟩
 case rest=>
  obtain ⟨rfl,g,rfl,HW⟩:=hcut
  have hx:=Lib.hid HW.out.1
  have G1:=Lib.hid HW.out.2.1
  have HB:=Lib.hid HW.out.2.2
  have y0:=(XC.out _ hx.out).1
  have y4:=(XC.out _ hx.out).2
  clear HW X x0 x4
  generalize wc = w1 at *
  go_wp2_with (first | (refine wpList_load_row rfl 38 _ rfl w.heap.size rfl 38 _ (0,0) _ hx.out Tryz.underlying38 rfl size38e ?_) | (refine wpList_store_row rfl 38 _ _ rfl w1.heap.size _ rfl rfl 38 _ (heap_alloc_new _ _) size38e rfl rfl ?_;rw [World.setRow_alloc_new]))
  have F2:=Lib.hid (box2 w1 (.cells #[.int .i64 8,.int .i64 f.str,.int .i64 f.off,.string f.s,.bool false,.int .i64 f.max,.int .i64 f.code,.bool f.uni,.int .i64 f.delay,.slice none 0 0,.int .i64 f.seq,.int .i64 f.retire,.string f.cid] 38) (.cells #[.int .u8 9] 5))
  generalize (w1.alloc _).alloc _ = W2 at F2 ⊢
  rw [convK 9 HK.out _ _ F2.out.2.1]
  simp only [Result.andThen]
  rw [Oper.upon_value]
  have E2:=Lib.hid (Ebs.mk F2.out.1 F2.out.2.2.1)
  have hz : (strOfNums [9]).size = 1:=by rw [strOf_size];rfl
  have HS0 : Hid (accB f [] = strOfNums [9]):=Lib.hid (by unfold accB;rw [HH.out];rfl)
  rw [← HR.out] at E2
  generalize strOfNums [9] = s0 at *
  clear F2 y0 y4 XC
  go_wp2
  go_loopw [7,44] (fun s i wr=>∃ q : Nat,q ≤ ks.length ∧ i = .int .i64 q ∧ s = .string (accB f (ks.take q)) ∧ (accB f (ks.take q)).size ≤ 1 + 1032 * q ∧ Ebs w1 (accR f (ks.take q)).cells wr) (fun _ i _=>ks.length - (intOf i).toNat)
  case atStart=>exact ⟨0,by omega,rfl,by rw [List.take_zero,HS0.out],by rw [List.take_zero,HS0.out,hz];omega,E2.out⟩
  case round=>
   obtain ⟨q,hq,rfl,rfl,hsz,hE⟩:=hrel
   have E:=Lib.hid hE
   clear hE E2
   by_cases hlt : q < ks.length
   ·obtain ⟨kk,hkk⟩ : ∃ kk,ks[q]? = some kk:=⟨_,List.getElem?_eq_getElem hlt⟩
    have PA:=(G1.out q kk hkk).below E.out.bel
    have PO:=HV.out.ok kk (by rw [HTY.out,HKS.out];exact List.mem_of_getElem? hkk)
    have SB:=Lib.hid (accB_succ f ks q kk hkk)
    have SR:=Lib.hid (accR_succ f ks q kk hkk)
    have PL:=putP_len f kk PO
    have hu : (accB f (ks.take q) ++ putP f kk).size ≤ 1 + 1032 * (q + 1):=by rw [ByteArray.size_append];omega
    have HU:=Lib.hid hu
    have zz : (9223372036854775807 < (accB f (ks.take q)).size + (putP f kk).size) = False:=eq_false (by omega)
    clear hu PL hkk hsz
    generalize accB f (ks.take q) = ss at *
    generalize accR f (ks.take q) = rr at *
    obtain ⟨st,hst⟩ : ∃ st,putP f kk = st:=⟨_,rfl⟩
    rw [hst] at SB zz HU
    cases kk with
    | int p=>
     obtain ⟨p1,p7,n,pa,pb,pc,pd,pe⟩:=PA
     have ZS:=Lib.hid (zap_set rr p p1 p7)
     have PI:=Lib.hid (And.intro PO.1 (And.intro PO.2 (Int.le_trans PO.2 (fLim_le p))))
     have NC:=Lib.hid (num_cell f p p1 p7)
     have PD:=Lib.hid (And.intro pd pe)
     have PB:=Lib.hid (And.intro p1 p7)
     have HST : Hid (strOfNums (encV (Fr.num f p)) = st):=Lib.hid hst
     generalize fLim p = lim at *
     generalize Fr.num f p = d at *
     clear p1 p7 pd pe PO hst
     simp only [zap] at SR
     generalize zapN rr p = zr at *
     go_wp2_with fail
     have EA:=Lib.hid (E.out.alloc (.cells (intP n) 241))
     have PA2:=Lib.hid (heap_alloc_new wr (.cells (intP n) 241))
     have BA:=Lib.hid ((Below.refl wr.heap.size wr).alloc (Nat.le_refl _) (.cells (intP n) 241))
     simp only [intP] at EA PA2 BA
     generalize wr.alloc _ = WA at EA PA2 BA ⊢
     have pd:=(BA.out.cell (p:=⟨n,0,none⟩) (World.block_lt_of_cell? _ _ PD.out.1)).trans PD.out.1
     have pe:=(BA.out.cell (p:=⟨n + 1,0,none⟩) (World.block_lt_of_cell? _ _ PD.out.2)).trans PD.out.2
     have PP:=putI_any w.heap.size n p d WA PB.out.1 PB.out.2 lim PI.out.1 PI.out.2.1 PI.out.2.2 ((cell_whole (EA.out.old hx.out) _).trans (by rw [← HC.out];exact NC.out)) pe pd
     rw [HST.out] at PP
     refine PP.mono ?_
     clear PP
     rintro e WB ⟨rfl,hb⟩
     have EB:=Lib.hid (EA.out.below hb)
     have rc:=at_whole (heap_below hb PA2.out) 2 rfl
     have pe2:=Lib.hid ((hb.cell (p:=⟨n + 1,0,none⟩) (World.block_lt_of_cell? _ _ pe)).trans pe)
     simp only [List.getElem_toArray,List.getElem_cons_zero,List.getElem_cons_succ] at rc
     clear EA hb pa pb pc PA2 pd pe BA PD
     go_wp2_with fail
     obtain ⟨xx,hxx⟩:=ZS.out.2
     refine (clearI_any w1.heap.size n p _ _ _ PB.out.1 PB.out.2 EB.out.new hxx pe2.out).mono ?_
     rintro e WC ⟨rfl,rfl⟩
     have EC:=Lib.hid (EB.out.set (fCell p) (.int .i64 0))
     rw [ZS.out.1] at EC
     generalize WB.setCell _ _ = WD at EC ⊢
     clear EB rc zz hxx pe2
     go_wp2
     go_roundw
     case rel=>exact ⟨q + 1,by omega,by go_num,by rw [SB.out],by rw [SB.out];exact HU.out,by rw [SR.out];exact EC.out⟩
     case measure=>simp [intOf];omega
    | txt=>
     obtain ⟨n,pa,pb,pc,pd,pe⟩:=PA
     have PD:=Lib.hid (And.intro pd pe)
     have PI:=Lib.hid PO
     have HST : Hid (strOfNums (encV f.s.size) ++ f.s = st):=Lib.hid hst
     unfold fnv at pb pc
     clear pd pe PO hst
     simp only [zap] at SR
     go_wp2_with fail
     have EA:=Lib.hid (E.out.alloc (.cells (txtP n) 241))
     have PA2:=Lib.hid (heap_alloc_new wr (.cells (txtP n) 241))
     have BA:=Lib.hid ((Below.refl wr.heap.size wr).alloc (Nat.le_refl _) (.cells (txtP n) 241))
     simp only [txtP,fnv] at EA PA2 BA
     generalize wr.alloc _ = WA at EA PA2 BA ⊢
     have pd:=(BA.out.cell (p:=⟨n,0,none⟩) (World.block_lt_of_cell? _ _ PD.out.1)).trans PD.out.1
     have pe:=(BA.out.cell (p:=⟨n + 1,0,none⟩) (World.block_lt_of_cell? _ _ PD.out.2)).trans PD.out.2
     have PP:=putS_any w.heap.size n f.off f.s 1024 WA PI.out.1 PI.out.2.1 (by have:=PI.out.2.2;omega) (at_whole (EA.out.old hx.out) 2 rfl) (at_whole (EA.out.old hx.out) 3 rfl) pd pe
     rw [HST.out] at PP
     refine PP.mono ?_
     clear PP
     rintro e WB ⟨rfl,hb⟩
     have EB:=Lib.hid (EA.out.below hb)
     have rc:=at_whole (heap_below hb PA2.out) 2 rfl
     simp only [List.getElem_toArray,List.getElem_cons_zero,List.getElem_cons_succ] at rc
     clear EA hb pa pb pc PA2 pd pe BA PD
     go_wp2_with fail
     refine (clearS_any w1.heap.size _ _ _ EB.out.new rfl).mono ?_
     rintro e WC ⟨rfl,rfl⟩
     have EC:=Lib.hid (EB.out.set 3 (.string ⟨#[]⟩))
     have EC : Hid (Ebs w1 (Fr.cells { rr with s:=⟨#[]⟩ }) (WB.setCell ⟨w1.heap.size,3,none⟩ (.string ⟨#[]⟩))):=Lib.hid EC.out
     generalize WB.setCell _ _ = WD at EC ⊢
     clear EB rc zz
     go_wp2
     go_roundw
     case rel=>exact ⟨q + 1,by omega,by go_num,by rw [SB.out],by rw [SB.out];exact HU.out,by rw [SR.out];exact EC.out⟩
     case measure=>simp [intOf];omega
    | uni=>
     obtain ⟨pa,pb,pc⟩:=PA
     have HST : Hid (strOfNums [if f.uni then 1 else 0] = st):=Lib.hid hst
     unfold fnv at pa pb pc
     clear PO hst
     simp only [zap] at SR
     go_wp2_with fail
     have EA:=Lib.hid (E.out.alloc (.cells uniP 241))
     have PA2:=Lib.hid (heap_alloc_new wr (.cells uniP 241))
     simp only [uniP,fnv] at EA PA2
     generalize wr.alloc _ = WA at EA PA2 ⊢
     have PP:=putU_any w.heap.size f.uni WA (at_whole (EA.out.old hx.out) 7 rfl)
     rw [HST.out] at PP
     refine PP.mono ?_
     clear PP
     rintro e WB ⟨rfl,rfl⟩
     have rc:=at_whole PA2.out 2 rfl
     simp only [List.getElem_toArray,List.getElem_cons_zero,List.getElem_cons_succ] at rc
     clear pa pb pc PA2
     go_wp2_with fail
     refine (clearU_any w1.heap.size _ _ _ EA.out.new rfl).mono ?_
     rintro e WC ⟨rfl,rfl⟩
     have EC:=Lib.hid (EA.out.set 7 (.bool false))
     have EC : Hid (Ebs w1 (Fr.cells { rr with uni:=false }) (WB.setCell ⟨w1.heap.size,7,none⟩ (.bool false))):=Lib.hid EC.out
     generalize WB.setCell _ _ = WD at EC ⊢
     clear EA rc zz
     go_wp2
     go_roundw
     case rel=>exact ⟨q + 1,by omega,by go_num,by rw [SB.out],by rw [SB.out];exact HU.out,by rw [SR.out];exact EC.out⟩
     case measure=>simp [intOf];omega
   ·obtain rfl : q = ks.length:=by omega
    rw [List.take_length] at E hsz ⊢
    have hbr : accR f ks = bare f.ty:=by rw [← HKS.out,← HTY.out];exact HV.out.bare
    have hen : accB f ks = encS f:=by rw [← HKS.out,← HTY.out];rfl
    rw [hbr,HTY.out] at E
    rw [hen]
    have x0:=at_whole (E.out.old hx.out) 0 rfl
    simp only [List.getElem_toArray,List.getElem_cons_zero] at x0
    have SB:=Lib.hid (same_bare 8)
    unfold Fr.val at SB
    have hbc : (bare 8).cells = #[.int .i64 8,.int .i64 0,.int .i64 0,.string ⟨#[]⟩,.bool false,.int .i64 0,.int .i64 0,.bool false,.int .i64 0,.slice none 0 0,.int .i64 0,.int .i64 0,.string ⟨#[]⟩]:=rfl
    rw [hbc] at SB E
    clear hlt hbr hen hsz hbc
    go_wp2_with (first | (refine wpList_load_row rfl 38 _ rfl w1.heap.size rfl 38 _ (0,0) _ E.out.new Tryz.underlying38 rfl size38e ?_) | (go_at_call 156;refine (SB.out _).mono ?_;rintro e W9 ⟨rfl,hb9⟩))
    go_ret
    exact ⟨rfl,HB.out.trans ((E.out.below hb9).bel.mono HB.out.size)⟩
theorem encode_any (f : Fr) (w : World) (hv : FrV f) : Calls Tryz.prog 95 #[f.val] w fun e w'=>e = .returned (.string (encS f)) ∧ Below w.heap.size w w':=by
 cases h : f.fin with
 | false=>exact encode_false f w hv h
 | true=>exact encode_true f w hv (hv.fin h) h
end
section
open Go.RowKit
theorem catch_idle (w : World) :
  CallsD Tryz.prog 155 #[] .returning w fun e u' w'=>e = .returned (.tuple #[]) ∧ u' = .returning ∧ w' = w:=by
 refine callsD_of_wpS Tryz.func155 rfl fun c₀ cs hu=>?_
 apply wpS_seq
 apply wpS_region
 simp [wpOpsS,go_sem,recoverD,hu,Tryz.ntmps155,Exit.thenS]
 apply wpS_seq
 apply wpS_region
 simp [wpOpsS,go_sem,Exit.thenS]
 refine wpS_cond (t:=false) (by simp [Act.eval,Array.replicate]) ?_
 simp only [Bool.false_eq_true,if_false]
 refine wpS_of_wp (wp_skip ?_)
 cases c₀
 simp_all [bodyPostS,results,Tryz.results155]
theorem vclos_any (b : Nat) (f : Fr) (w : World) (hv : FrV f) (hb : w.heap[b]? = some (.cells f.cells 38 (0,0))) :
  Calls Tryz.prog 94 #[.pointer (some ⟨b,0,none⟩)] w fun e w'=>e = .returned (.tuple #[]) ∧ Below w.heap.size w w':=by
 have E:=Lib.hid (encode_any f w hv)
 have HB:=Lib.hid hb
 clear hb hv
 generalize encS f = S at *
 unfold Fr.val at E
 unfold Fr.cells at *
 go_enter Tryz.func94,Tryz.ntmps94
 go_wp2_with (first | (refine wpList_load_row rfl 38 _ rfl b rfl 38 _ (0,0) _ HB.out Tryz.underlying38 rfl size38e ?_) | (go_at_call 95;refine E.out.mono ?_;rintro e w' ⟨rfl,hb⟩))
 go_end0
 exact ⟨rfl,hb⟩
theorem guardV (b : Nat) (w : World) (P : World → Prop) (hc : Calls Tryz.prog 94 #[.pointer (some ⟨b,0,none⟩)] w fun e w'=>e = .returned (.tuple #[]) ∧ P w') :
  Calls Tryz.prog 93 #[.func (.func 94) #[] #[.pointer (some ⟨b,0,none⟩)]] w fun e w'=>e = .returned (.bool true) ∧ P w':=by
 have E:=Lib.hid hc
 clear hc
 go_enter_defers Tryz.func93,Tryz.ntmps93
 go_wp2_with (go_at_call 94;refine E.out.mono ?_;rintro e w' ⟨rfl,hb⟩)
 refine leaves_cons (f:=155) (args:=#[]) (by simp) (by simp [go_sem]) ?_
 refine (catch_idle _).mono ?_
 rintro e u' w'' ⟨rfl,rfl,rfl⟩
 exact ⟨_,results_tmp rfl _ _ _,rfl,hb⟩
theorem valid_any (f : Fr) (w : World) (hv : FrV f) :
  Calls Tryz.prog 47 #[f.val] w fun e w'=>e = .returned (.bool true) ∧ Below w.heap.size w w':=by
 have X:=Lib.hid (box1 w (.cells f.cells 38))
 have E:=Lib.hid (guardV w.heap.size _ _ (vclos_any w.heap.size f _ hv X.out.1))
 have hmf : ∀ (fn : Fn) (first cap : Array Value) (w : World),(Instr.makeFunc fn first cap).run Tryz.prog w = .ok (.func fn first cap) w:=fun _ _ _ _=>rfl
 clear hv
 unfold Fr.val
 unfold Fr.cells at *
 go_enter Tryz.func47,Tryz.ntmps47
 go_wp2_with (go_at_call 93;refine E.out.mono ?_;rintro e w' ⟨rfl,hb⟩)
 go_ret
 exact ⟨rfl,btrans X.out.2.1 hb⟩
theorem guardE (b c : Nat) (w : World) (P : World → Prop) (hc : Calls Tryz.prog 153 #[.pointer (some ⟨b,0,none⟩),.pointer (some ⟨c,0,none⟩)] w fun e w'=>e = .returned (.tuple #[]) ∧ P w') :
  Calls Tryz.prog 93 #[.func (.func 153) #[] #[.pointer (some ⟨b,0,none⟩),.pointer (some ⟨c,0,none⟩)]] w fun e w'=>e = .returned (.bool true) ∧ P w':=by
 have E:=Lib.hid hc
 clear hc
 go_enter_defers Tryz.func93,Tryz.ntmps93
 go_wp2_with (go_at_call 153;refine E.out.mono ?_;rintro e w' ⟨rfl,hb⟩)
 refine leaves_cons (f:=155) (args:=#[]) (by simp) (by simp [go_sem]) ?_
 refine (catch_idle _).mono ?_
 rintro e u' w'' ⟨rfl,rfl,rfl⟩
 exact ⟨_,results_tmp rfl _ _ _,rfl,hb⟩
theorem encl_any (b c : Nat) (f : Fr) (w : World) (hk : FrV f) (hb : w.heap[b]? = some (.cells f.cells 38 (0,0))) (hc : w.heap[c]? = some (.cells #[.string ⟨#[]⟩] 9 (0,0))) :
  Calls Tryz.prog 153 #[.pointer (some ⟨b,0,none⟩),.pointer (some ⟨c,0,none⟩)] w fun e w'=>e = .returned (.tuple #[]) ∧ ∃ w1,Below w.heap.size w w1 ∧ w' = w1.setCell ⟨c,0,none⟩ (.string (encS f)):=by
 have E:=Lib.hid (encode_any f w hk)
 have HB:=Lib.hid hb
 have HC:=Lib.hid hc
 clear hk hb hc
 generalize encS f = S at *
 unfold Fr.val at E
 unfold Fr.cells at *
 go_enter Tryz.func153,Tryz.ntmps153
 go_wp2_with (first | (refine wpList_load_row rfl 38 _ rfl b rfl 38 _ (0,0) _ HB.out Tryz.underlying38 rfl size38e ?_) | (go_at_call 95;refine E.out.mono ?_;rintro e w1 ⟨rfl,hb⟩;have k0:=at_whole (heap_below hb HC.out) 0 rfl;have f0:=frozen_whole (heap_below hb HC.out) 0))
 go_end0
 exact ⟨rfl,w1,hb,rfl⟩
theorem Encode_any (f : Fr) (w : World) (hk : FrV f) :
  Calls Tryz.prog 90 #[f.val] w fun e w'=>e = .returned (.tuple #[.string (encS f),.int .i64 0]) ∧ Below w.heap.size w w':=by
 have X:=Lib.hid (box2 w (.cells f.cells 38) (.cells #[.string ⟨#[]⟩] 9))
 have E:=Lib.hid (guardE w.heap.size (w.heap.size + 1) _ _ (encl_any w.heap.size (w.heap.size + 1) f _ hk X.out.1 X.out.2.1))
 have hmf : ∀ (fn : Fn) (first cap : Array Value) (w : World),(Instr.makeFunc fn first cap).run Tryz.prog w = .ok (.func fn first cap) w:=fun _ _ _ _=>rfl
 clear hk
 generalize encS f = S at *
 unfold Fr.val
 unfold Fr.cells at *
 go_enter Tryz.func90,Tryz.ntmps90
 go_wp2_with fail
 refine E.out.mono ?_
 rintro e w2 ⟨rfl,w1,hb,rfl⟩
 have hz:=X.out.2.2.2
 have HX:=Lib.hid (heap_set (i:=0) (.string S) (heap_below hb X.out.2.1))
 have k0:=at_whole HX.out 0 rfl
 simp only [List.getElem_toArray,List.getElem_cons_zero,List.setIfInBounds_toArray,List.set_cons_zero] at k0
 have HB:=Lib.hid (X.out.2.2.1.trans (hb.mono (by rw [hz];omega)))
 clear hz hb
 go_wp2
 go_returns
 exact ⟨rfl,HB.out.setCell (p:=⟨w.heap.size + 1,0,none⟩) (Nat.le_succ _) _⟩
end
end Go.Proofs.YthckbmcmdcemkaaGreatDoor.frm
