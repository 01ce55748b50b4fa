/- Texts of this claim, one behind the other: E E2 E3 G H. -/
import Derived.Test.YthckbmcmdcemkaaGreatDoorBs6
set_option maxRecDepth 100000
set_option maxHeartbeats 16000000
set_option linter.unusedSimpArgs false
set_option linter.unusedVariables false
namespace Go.Proofs.YthckbmcmdcemkaaGreatDoor
section
open Go.RowKit
theorem Rep.far {w w' : World} {b : Nat} {F : Nat → Prop} {B : Bf} {vd vs : Value} (h : Rep w b F B vd vs) (hs : ∀ k,(k = b ∨ vd.ownBlock = some k ∨ vs.ownBlock = some k) → w'.heap[k]? = w.heap[k]?) : Rep w' b F B vd vs:=
 ⟨(hs b (.inl rfl)).trans h.obj,own_same h.rd (fun k hk=>hs k (.inr (.inl hk))),own_same h.rs (fun k hk=>hs k (.inr (.inr hk))),h.fb,h.fd,h.fs⟩
theorem Chg.setRow {F : Nat → Prop} {w W : World} (h : Chg F w W) (r : Nat) (cs : Array Value) (hr : w.heap.size ≤ r) : Chg F w (W.setRow r cs):=
 ⟨h.os,h.tape,h.output,by simpa using h.size,fun k hk hf=>(setRow_other W r k cs (by omega)).trans (h.block k hk hf)⟩
theorem Chg.setFar {F : Nat → Prop} {w W : World} (h : Chg F w W) (r i : Nat) (v : Value) (hr : w.heap.size ≤ r) : Chg F w (W.setCell ⟨r,i,none⟩ v):=
 ⟨h.os,h.tape,h.output,by simpa using h.size,fun k hk hf=>(heap_setCell_other W _ k v (by show k ≠ r;omega)).trans (h.block k hk hf)⟩
def finF (B : Bf) (t : Nat) : Bool:=decide (t = B.data.length) && openF B
def sentUp (B : Bf) (t : Nat) : Int:=if B.sent < B.base + t then B.base + t else B.sent
def frameB (B : Bf) (f t : Nat) : Bf:={ B with st:=setTo B.st 1 f (t - f),sent:=sentUp B t,ed:=if finF B t then 1 else B.ed }
def frameR (B : Bf) (f t : Nat) : Fr:=mkFr 8 (B.base + f) (strOfNums ((B.data.drop f).take (t - f))) (finF B t)
theorem size38 (f : Fr) : (Tryz.prog.info? 38).map (·.size) = some f.cells.size:=by
 have : (Tryz.prog.info? 38).map (·.size) = some 13:=by kernel_rfl
 rw [this];rfl
theorem one35 (ty off : Int) (s : ByteArray) (fin : Bool) : (mkFr ty off s fin).cells.all (·.oneCell') = true:=by simp [mkFr,Fr.cells,Value.oneCell']
theorem frame_piece (b : Nat) (F : Nat → Prop) (B : Bf) (f t : Nat) (w : World) (h : Inv w b F B) (hg : Good B) (hft : f ≤ t) (ht : t ≤ B.data.length) (hf9 : f < t) :
  Calls Tryz.prog 208 #[.pointer (some ⟨b,0,none⟩),.int .i64 f,.int .i64 t] w fun e w'=>e = .returned (frameR B f t).val ∧ Chg F w w' ∧ Inv w' b (Ext F w w') (frameB B f t):=by
 obtain ⟨vd,vs,h⟩:=h
 obtain ⟨l1,l2,b0,b1,len,cp,s0,s1⟩:=hg
 have hn9 : B.st.length ≤ 8192:=by omega
 have ht2 : t ≤ B.st.length:=by omega
 obtain ⟨a2,caps,rfl,hcaps⟩:=own_form h.rs
 obtain ⟨a1,capd,rfl,hcapd⟩:=own_form h.rd
 have HR0:=Lib.hid (h.below (show Below w.heap.size w (w.alloc (.cells (mkFr 0 0 ⟨#[]⟩ false).cells 38)) from (Below.refl _ w).alloc (Nat.le_refl _) _))
 go_enter Tryz.func208,Tryz.ntmps208
 go_wp2
 have HQ0 : Hid ((w.alloc (.cells (mkFr 0 0 ⟨#[]⟩ false).cells 38)).heap[w.heap.size]? = some (.cells (mkFr 0 0 ⟨#[]⟩ false).cells 38 (0,0))):=Lib.hid (heap_alloc_new w _)
 have HC0 : Hid (Chg F w (w.alloc (.cells (mkFr 0 0 ⟨#[]⟩ false).cells 38))):=Lib.hid (Chg.below ((Below.refl _ w).alloc (Nat.le_refl _) _))
 have HZ0 : Hid ((w.alloc (.cells (mkFr 0 0 ⟨#[]⟩ false).cells 38)).heap.size = w.heap.size + 1):=Lib.hid (by simp)
 have HLT:=Lib.hid (own_lt h.rs)
 have HBL:=Lib.hid (heap_lt h.obj)
 have HDL:=Lib.hid (own_lt h.rd)
 change Code.wp _ _ _ _ (w.alloc (.cells (mkFr 0 0 ⟨#[]⟩ false).cells 38))
 generalize w.alloc (.cells (mkFr 0 0 ⟨#[]⟩ false).cells 38) = W0 at *
 have HFAR : Hid (∀ k,(k = b ∨ (Value.slice a1 B.data.length capd).ownBlock = some k ∨ (Value.slice a2 B.st.length caps).ownBlock = some k) → k < w.heap.size):=Lib.hid (fun k hk=>by rcases hk with rfl | hk | hk;exact HBL.out;exact HDL.out k hk;exact HLT.out k hk)
 have hbl0 : b < w.heap.size:=HBL.out
 clear h
 go_loopw [7] (fun i wr=>∃ (k : Nat),f ≤ k ∧ k ≤ t ∧ i = .int .i64 k ∧ Rep wr b F { B with st:=setTo B.st 1 f (k - f) } (.slice a1 B.data.length capd) (.slice a2 B.st.length caps) ∧ Chg F w wr ∧ wr.heap[w.heap.size]? = some (.cells (mkFr 0 0 ⟨#[]⟩ false).cells 38 (0,0)) ∧ wr.heap.size = w.heap.size + 1) (fun i _=>t - (intOf i).toNat)
 case atStart=>exact ⟨f,by omega,hft,rfl,by rw [Nat.sub_self];exact HR0.out,HC0.out,HQ0.out,HZ0.out⟩
 case round=>
  obtain ⟨k,hk1,hk2,rfl,R,hC,hQ,hZ⟩:=hrel
  by_cases hlt : k < t
  ·obtain ⟨g,cpp,e,hc1,hc2,hcell,hfr⟩:=own_cells R.rs (by show 0 < (setTo B.st 1 f (k - f)).length;rw [setTo_length];omega)
   simp only [Value.slice.injEq] at e
   obtain ⟨rfl,_,rfl⟩:=e
   have hkl : k < (setTo B.st 1 f (k - f)).length:=by rw [setTo_length];omega
   have e1:=hcell k hkl
   unfold maxLen at hc2
   have N:=Lib.hid (R.setState k hkl 1)
   obtain ⟨c0,c1,c2,c3,c4,c5,c6,fr⟩:=R.facts
   have hgl:=HLT.out g rfl
   have HS : Hid ((wr.setCell ⟨g,k,none⟩ (.int .u8 1)).heap[w.heap.size]? = some (.cells (mkFr 0 0 ⟨#[]⟩ false).cells 38 (0,0))):=Lib.hid ((heap_setCell_other wr _ _ _ (by show w.heap.size ≠ g;omega)).trans hQ)
   have hst : (setTo B.st 1 f (k - f)).set k 1 = setTo B.st 1 f (k + 1 - f):=by
    rw [show k + 1 - f = (k - f) + 1 from by omega,setTo,show f + (k - f) = k from by omega]
   rw [hst] at N
   clear hst c0 c1 c2 c4 c5 c6 hcell
   go_wp2
   go_roundw
   case rel=>exact ⟨k + 1,by omega,by omega,by simp,N.out.1,hC.trans1 N.out.2,HS.out,by simpa using hZ⟩
   case measure=>simp [intOf];omega
  ·obtain rfl : k = t:=by omega
   obtain ⟨c0,c1,c2,c3,c4,c5,c6,fr⟩:=R.facts
   obtain ⟨S,hS⟩ : ∃ S,strOfNums ((B.data.drop f).take (k - f)) = S:=⟨_,rfl⟩
   have hwh:=R.rd
   have hcase : (B.data.length = 0 ∧ a1 = none ∧ capd = 0) ∨ (∃ g,a1 = some ⟨g,0,none⟩ ∧ B.data.length ≤ capd ∧ capd ≤ 9223372036854775807 ∧ g < wr.heap.size ∧ (∀ j,j < B.data.length → wr.cell? ⟨g,j,none⟩ = some (.int .u8 (B.data[j]?.getD 0)))):=by
    rcases hwh.2 with ⟨e,e2⟩ | ⟨g,cap,cur,e,hb,hg,hn,hc,hs,ht⟩
    ·simp only [Value.slice.injEq] at e
     exact .inl ⟨e2,e.1,e.2.2⟩
    ·simp only [Value.slice.injEq] at e
     obtain ⟨rfl,_,rfl⟩:=e
     refine .inr ⟨g,rfl,hn,by unfold maxLen at hc;omega,heap_lt hg,fun j hj=>?_⟩
     have : (cur.toList.take (B.data.length * 1))[j]? = some (.int .u8 (B.data[j]?.getD 0)):=by rw [ht];simp [hj]
     rw [List.getElem?_take_of_lt (by omega)] at this
     simp only [World.cell?,hg]
     simpa using this
   rcases hcase with ⟨hd0,_,_⟩ | ⟨g,rfl,hc1,hc2,hgl,hcell⟩
   ·omega
   have hfk : ¬ f = k:=by omega
   have hdc : ∀ j,j < k - f → wr.cell? ⟨g,f + j,none⟩ = some (.int .u8 (((B.data.drop f).take (k - f)).getD j 0)):=fun j hj=>by
    rw [hcell (f + j) (by omega)]
    simp [List.getD,List.getElem?_take_of_lt hj]
   have hpl : ((B.data.drop f).take (k - f)).length = k - f:=by simp;omega
   have HCV : Hid (∀ w' : World,(∀ j,j < wr.heap.size → w'.heap[j]? = wr.heap[j]?) → (convert 52 9 (.slice (some ⟨g,f,none⟩) (k - f) (k - f))).run Tryz.prog w' = .ok (.string S) w'):=Lib.hid (fun w' hw=>by rw [← hS];exact run_convert_bytes_arg w' 52 5 Tryz.underlying52 Tryz.underlying5 g f (k - f) (k - f) _ hpl (fun j hj=>by rw [← hdc j hj];unfold World.cell?;rw [hw g hgl]) 9 Tryz.underlying9)
   clear hdc hpl hcell hwh hf9
   have hw1 : IntKind.i64.wrap (B.base + (f : Int)) = (B.base + (f : Int)):=IntWalk.i64_in _ (by omega)
   have hw2 : IntKind.i64.wrap (B.base + (k : Int)) = (B.base + (k : Int)):=IntWalk.i64_in _ (by omega)
   obtain ⟨sent',hse⟩ : ∃ x,(if B.sent < (B.base + (k : Int)) then (B.base + (k : Int)) else B.sent) = x:=⟨_,rfl⟩
   have HSB : Hid (sentUp B k = sent'):=Lib.hid ( hse)
   go_wp2
   have hc1':=HCV.out wr (fun _ _=>rfl)
   have hbl:=heap_lt R.obj
   go_region_held3 (fun w'=>w'.cell? ⟨b,1,none⟩ = some (.int .i64 B.base) ∧ (convert 52 9 (.slice (some ⟨g,f,none⟩) (k - f) (k - f))).run Tryz.prog w' = .ok (.string S) w') (first | exact ⟨c1,hc1'⟩ | exact ⟨c1,HCV.out _ (fun _ _=>rfl)⟩ | exact ⟨(((Below.refl _ wr).alloc (Nat.le_refl _) _).cell (p:=⟨b,1,none⟩) hbl).trans c1,HCV.out _ (fun j hj=>Below.heap_alloc _ _ _ hj)⟩) ((fail))
   have HB2 : Hid (Below wr.heap.size wr (wr.alloc (.cells (mkFr 8 (B.base + (f : Int)) S false).cells 38)).drew):=Lib.hid (((Below.refl _ wr).alloc (Nat.le_refl _) _).drew)
   have R2:=Lib.hid (R.below HB2.out)
   have Q2 : Hid ((wr.alloc (.cells (mkFr 8 (B.base + (f : Int)) S false).cells 38)).drew.heap[w.heap.size + 1]? = some (.cells (mkFr 8 (B.base + (f : Int)) S false).cells 38 (0,0))):=Lib.hid (by rw [← hZ];exact heap_alloc_new wr _)
   have Q1 : Hid ((wr.alloc (.cells (mkFr 8 (B.base + (f : Int)) S false).cells 38)).drew.heap[w.heap.size]? = some (.cells (mkFr 0 0 ⟨#[]⟩ false).cells 38 (0,0))):=Lib.hid (heap_below HB2.out hQ)
   have C2:=Lib.hid (hC.trans1 (Chg.below HB2.out))
   change Exit.then _ _ _ _ (wr.alloc (.cells (mkFr 8 (B.base + (f : Int)) S false).cells 38)).drew
   clear HB2 hQ hC hZ R c0 c1 c2 c3 c4 c5 c6 fr hc1' HCV hbl HQ0 HC0 HZ0 HR0
   generalize (wr.alloc (.cells (mkFr 8 (B.base + (f : Int)) S false).cells 38)).drew = W2 at *
   obtain ⟨c0,c1,c2,c3,c4,c5,c6,fr⟩:=R2.out.facts
   have R3:=Lib.hid ((R2.out.set 4 (.int .i64 sent') (B':={ B with st:=setTo B.st 1 f (k - f),sent:=sent' }) rfl rfl rfl).drew)
   have C3:=Lib.hid ((C2.out.set b 4 (.int .i64 sent') R2.out.fb).drew)
   have T9 : Hid ((W2.setCell ⟨b,4,none⟩ (.int .i64 sent')).drew.heap[w.heap.size + 1]? = some (.cells (mkFr 8 (B.base + (f : Int)) S false).cells 38 (0,0))):=Lib.hid ((heap_setCell_other W2 _ _ _ (show w.heap.size + 1 ≠ b by omega)).trans Q2.out)
   have T6 : Hid ((W2.setCell ⟨b,4,none⟩ (.int .i64 sent')).drew.heap[w.heap.size]? = some (.cells (mkFr 0 0 ⟨#[]⟩ false).cells 38 (0,0))):=Lib.hid ((heap_setCell_other W2 _ _ _ (show w.heap.size ≠ b by omega)).trans Q1.out)
   have OP:=Lib.hid (open_any b F _ _ ⟨_,_,R3.out⟩)
   have hcase2 : (k = B.data.length ∧ openF B = true) ∨ ((k = B.data.length ∧ openF B = false) ∨ ¬ k = B.data.length):=by
    by_cases h1 : k = B.data.length
    ·cases h2 : openF B
     ·exact .inr (.inl ⟨h1,rfl⟩)
     ·exact .inl ⟨h1,rfl⟩
    ·exact .inr (.inr h1)
   have HS2:=Lib.hid hS
   rw [show openF { B with st:=setTo B.st 1 f (k - f),sent:=sent' } = openF B from rfl] at OP
   rcases hcase2 with ⟨hkd,hop⟩ | hno
   ·have HF : Hid (finF B k = true):=Lib.hid (by unfold finF;rw [hop,hkd];simp)
    rw [hop] at OP
    have hse2 : (if B.sent < B.base + (B.data.length : Int) then B.base + (B.data.length : Int) else B.sent) = sent':=by rw [← hkd];exact hse
    have hw3 : IntKind.i64.wrap (B.base + (B.data.length : Int)) = B.base + (B.data.length : Int):=by rw [← hkd];exact hw2
    have hne1 : ¬ (w.heap.size + 1 = b):=by omega
    have hne2 : ¬ (b = w.heap.size + 1):=by omega
    have hne3 : ¬ (w.heap.size = b):=by omega
    have FIN : Hid (∀ W3 : World,Rep W3 b F { B with st:=setTo B.st 1 f (k - f),sent:=sent' } _ _ → Chg F w W3 → W3.heap[w.heap.size + 1]? = some (.cells (mkFr 8 (B.base + (f : Int)) S false).cells 38 (0,0)) → W3.heap[w.heap.size]? = some (.cells (mkFr 0 0 ⟨#[]⟩ false).cells 38 (0,0)) → ((W3.setCell ⟨b,6,none⟩ (.int .u8 1)).setCell ⟨w.heap.size + 1,4,none⟩ (.bool true)).heap[w.heap.size + 1]? = some (.cells (mkFr 8 (B.base + (f : Int)) S true).cells 38 (0,0)) ∧ ((W3.setCell ⟨b,6,none⟩ (.int .u8 1)).setCell ⟨w.heap.size + 1,4,none⟩ (.bool true)).heap[w.heap.size]? = some (.cells (mkFr 0 0 ⟨#[]⟩ false).cells 38 (0,0)) ∧ Chg F w ((W3.setCell ⟨b,6,none⟩ (.int .u8 1)).setCell ⟨w.heap.size + 1,4,none⟩ (.bool true)) ∧ Rep ((W3.setCell ⟨b,6,none⟩ (.int .u8 1)).setCell ⟨w.heap.size + 1,4,none⟩ (.bool true)) b F { B with st:=setTo B.st 1 f (k - f),sent:=sent',ed:=1 } _ _):=Lib.hid (fun W3 r c t9 t6=>⟨heap_set (.bool true) ((heap_setCell_other _ _ _ _ hne1).trans t9),(heap_setCell_other _ _ _ _ (by show w.heap.size ≠ w.heap.size + 1;omega)).trans ((heap_setCell_other _ _ _ _ hne3).trans t6),(c.set b 6 _ r.fb).setFar (w.heap.size + 1) 4 _ (by omega),(r.set 6 (.int .u8 1) (B':={ B with st:=setTo B.st 1 f (k - f),sent:=sent',ed:=1 }) rfl rfl rfl).far (w':=((W3.setCell ⟨b,6,none⟩ (.int .u8 1)).setCell ⟨w.heap.size + 1,4,none⟩ (.bool true))) (fun j hj=>heap_setCell_other _ _ _ _ (by have:=HFAR.out j hj;show j ≠ w.heap.size + 1;omega))⟩)
    go_wp2
    go_still_tail 14,(by kernel_rfl)
    go_wp2_with (first | (go_at_call 209;refine OP.out.mono ?_;rintro e w1 ⟨rfl,rfl⟩;have FI:=Lib.hid (FIN.out _ R3.out C3.out T9.out T6.out);clear OP R2 C2 Q1 Q2;generalize (W2.setCell ⟨b,4,none⟩ (.int .i64 sent')).drew = W3 at *;clear c0 c1 c2 c3 c4 c5 c6 fr;have d6:=R3.out.facts.c6;have dfr:=R3.out.facts.fr;have e4:=(cell_whole T9.out 4).trans (rfl : _ = some (Value.bool false));have f9:=frozen_whole T9.out) | (refine wpList_load_row rfl 38 _ rfl (w.heap.size + 1) rfl 38 _ (0,0) _ FI.out.1 Tryz.underlying38 rfl (size38 _) ?_) | (refine wpList_store_row rfl 38 _ _ rfl w.heap.size _ rfl rfl 38 _ FI.out.2.1 (size38 _) rfl (one35 _ _ _ _) ?_))
    refine bodyPost_ret (v:=(mkFr 8 (B.base + (f : Int)) S true).val) (results_cell_row rfl _ _ w.heap.size 38 _ (0,0) _ rfl (setRow_heap _ _ _ _ 38 _ FI.out.2.1) Tryz.underlying38 rfl (size38 _)) rfl ⟨?_,FI.out.2.2.1.setRow _ _ (Nat.le_refl _),?_⟩
    ·unfold frameR;rw [HS2.out,HF.out]
    ·rw [show frameB B f k = { B with st:=setTo B.st 1 f (k - f),sent:=sent',ed:=1 } from by unfold frameB;rw [HSB.out,HF.out];rfl]
     exact ⟨_,_,(FI.out.2.2.2.far (fun j hj=>setRow_other _ _ j _ (by have:=HFAR.out j hj;omega))).ext (fun j hj=>.inl hj)⟩
   ·have HF : Hid (finF B k = false):=Lib.hid (by unfold finF;rcases hno with ⟨_,h⟩ | h;rw [h];simp;simp [h])
    rcases hno with ⟨hkd,hop⟩ | hkd
    ·rw [hop] at OP
     have hse2 : (if B.sent < B.base + (B.data.length : Int) then B.base + (B.data.length : Int) else B.sent) = sent':=by rw [← hkd];exact hse
     have hw3 : IntKind.i64.wrap (B.base + (B.data.length : Int)) = B.base + (B.data.length : Int):=by rw [← hkd];exact hw2
     go_wp2
     go_still_tail 14,(by kernel_rfl)
     go_wp2_with (first | (go_at_call 209;refine OP.out.mono ?_;rintro e w1 ⟨rfl,rfl⟩) | (refine wpList_load_row rfl 38 _ rfl (w.heap.size + 1) rfl 38 _ (0,0) _ T9.out Tryz.underlying38 rfl (size38 _) ?_) | (refine wpList_store_row rfl 38 _ _ rfl w.heap.size _ rfl rfl 38 _ T6.out (size38 _) rfl (one35 _ _ _ _) ?_))
     refine bodyPost_ret (v:=(mkFr 8 (B.base + (f : Int)) S false).val) (results_cell_row rfl _ _ w.heap.size 38 _ (0,0) _ rfl (setRow_heap _ _ _ _ 38 _ T6.out) Tryz.underlying38 rfl (size38 _)) rfl ⟨?_,C3.out.setRow _ _ (Nat.le_refl _),?_⟩
     ·unfold frameR;rw [HS2.out,HF.out]
     ·rw [show frameB B f k = { B with st:=setTo B.st 1 f (k - f),sent:=sent' } from by unfold frameB;rw [HSB.out,HF.out];rfl]
      exact ⟨_,_,(R3.out.far (fun j hj=>setRow_other _ _ j _ (by have:=HFAR.out j hj;omega))).ext (fun j hj=>.inl hj)⟩
    ·have hkd2 : ¬ ((k : Nat) : Int) = (B.data.length : Int):=by omega
     go_wp2
     go_still_tail 14,(by kernel_rfl)
     go_wp2_with (first | (go_at_call 209;refine OP.out.mono ?_;rintro e w1 ⟨rfl,rfl⟩) | (refine wpList_load_row rfl 38 _ rfl (w.heap.size + 1) rfl 38 _ (0,0) _ T9.out Tryz.underlying38 rfl (size38 _) ?_) | (refine wpList_store_row rfl 38 _ _ rfl w.heap.size _ rfl rfl 38 _ T6.out (size38 _) rfl (one35 _ _ _ _) ?_))
     refine bodyPost_ret (v:=(mkFr 8 (B.base + (f : Int)) S false).val) (results_cell_row rfl _ _ w.heap.size 38 _ (0,0) _ rfl (setRow_heap _ _ _ _ 38 _ T6.out) Tryz.underlying38 rfl (size38 _)) rfl ⟨?_,C3.out.setRow _ _ (Nat.le_refl _),?_⟩
     ·unfold frameR;rw [HS2.out,HF.out]
     ·rw [show frameB B f k = { B with st:=setTo B.st 1 f (k - f),sent:=sent' } from by unfold frameB;rw [HSB.out,HF.out];rfl]
      exact ⟨_,_,(R3.out.far (fun j hj=>setRow_other _ _ j _ (by have:=HFAR.out j hj;omega))).ext (fun j hj=>.inl hj)⟩
end
section
open Go.RowKit
theorem frame_empty (b : Nat) (F : Nat → Prop) (B : Bf) (f : Nat) (w : World) (g capd : Nat) (vs : Value) (h : Rep w b F B (.slice (some ⟨g,0,none⟩) B.data.length capd) vs) (hg : Good B) (ht : f ≤ B.data.length) :
  Calls Tryz.prog 208 #[.pointer (some ⟨b,0,none⟩),.int .i64 f,.int .i64 f] w fun e w'=>e = .returned (frameR B f f).val ∧ Chg F w w' ∧ Inv w' b (Ext F w w') (frameB B f f):=by
 obtain ⟨l1,l2,b0,b1,len,cp,s0,s1⟩:=hg
 have hn9 : B.st.length ≤ 8192:=by omega
 have ht2 : f ≤ B.st.length:=by omega
 obtain ⟨a2,caps,rfl,hcaps⟩:=own_form h.rs
 have HR0:=Lib.hid (h.below (show Below w.heap.size w (w.alloc (.cells (mkFr 0 0 ⟨#[]⟩ false).cells 38)) from (Below.refl _ w).alloc (Nat.le_refl _) _))
 go_enter Tryz.func208,Tryz.ntmps208
 go_wp2
 have HQ0 : Hid ((w.alloc (.cells (mkFr 0 0 ⟨#[]⟩ false).cells 38)).heap[w.heap.size]? = some (.cells (mkFr 0 0 ⟨#[]⟩ false).cells 38 (0,0))):=Lib.hid (heap_alloc_new w _)
 have HC0 : Hid (Chg F w (w.alloc (.cells (mkFr 0 0 ⟨#[]⟩ false).cells 38))):=Lib.hid (Chg.below ((Below.refl _ w).alloc (Nat.le_refl _) _))
 have HZ0 : Hid ((w.alloc (.cells (mkFr 0 0 ⟨#[]⟩ false).cells 38)).heap.size = w.heap.size + 1):=Lib.hid (by simp)
 have HLT:=Lib.hid (own_lt h.rs)
 have HBL:=Lib.hid (heap_lt h.obj)
 have HDL:=Lib.hid (own_lt h.rd)
 change Code.wp _ _ _ _ (w.alloc (.cells (mkFr 0 0 ⟨#[]⟩ false).cells 38))
 generalize w.alloc (.cells (mkFr 0 0 ⟨#[]⟩ false).cells 38) = W0 at *
 have HFAR : Hid (∀ k,(k = b ∨ (Value.slice (some ⟨g,0,none⟩) B.data.length capd).ownBlock = some k ∨ (Value.slice a2 B.st.length caps).ownBlock = some k) → k < w.heap.size):=Lib.hid (fun k hk=>by rcases hk with rfl | hk | hk;exact HBL.out;exact HDL.out k hk;exact HLT.out k hk)
 have hbl0 : b < w.heap.size:=HBL.out
 clear h
 go_loopw [7] (fun i wr=>∃ (k : Nat),f ≤ k ∧ k ≤ f ∧ i = .int .i64 k ∧ Rep wr b F { B with st:=setTo B.st 1 f (k - f) } (.slice (some ⟨g,0,none⟩) B.data.length capd) (.slice a2 B.st.length caps) ∧ Chg F w wr ∧ wr.heap[w.heap.size]? = some (.cells (mkFr 0 0 ⟨#[]⟩ false).cells 38 (0,0)) ∧ wr.heap.size = w.heap.size + 1) (fun i _=>f - (intOf i).toNat)
 case atStart=>exact ⟨f,by omega,by omega,rfl,by rw [Nat.sub_self];exact HR0.out,HC0.out,HQ0.out,HZ0.out⟩
 case round=>
  obtain ⟨k,hk1,hk2,rfl,R,hC,hQ,hZ⟩:=hrel
  have hkf : k = f:=by omega
  subst hkf
  obtain ⟨c0,c1,c2,c3,c4,c5,c6,fr⟩:=R.facts
  obtain ⟨S,hS⟩ : ∃ S,strOfNums ((B.data.drop k).take (k - k)) = S:=⟨_,rfl⟩
  obtain ⟨hc1,hc2⟩ : B.data.length ≤ capd ∧ capd ≤ 9223372036854775807:=by
   rcases R.rd.2 with ⟨e,e2⟩ | ⟨g,cap,cur,e,hb,hg,hn,hc,hs,ht⟩
   ·cases e
   ·simp only [Value.slice.injEq] at e
    obtain ⟨_,_,rfl⟩:=e
    exact ⟨hn,hc⟩
  have HCV : Hid (∀ w' : World,(∀ j,j < wr.heap.size → w'.heap[j]? = wr.heap[j]?) → (convert 52 9 (.slice (some ⟨g,0,none⟩) 0 0)).run Tryz.prog w' = .ok (.string S) w'):=Lib.hid (fun w' hw=>by rw [← hS,Nat.sub_self,List.take_zero];exact run_convert_bytes_arg w' 52 5 Tryz.underlying52 Tryz.underlying5 g 0 0 0 [] rfl (fun j hj=>by omega) 9 Tryz.underlying9)
  have hw1 : IntKind.i64.wrap (B.base + (k : Int)) = (B.base + (k : Int)):=IntWalk.i64_in _ (by omega)
  have hw2 : IntKind.i64.wrap (B.base + (k : Int)) = (B.base + (k : Int)):=IntWalk.i64_in _ (by omega)
  obtain ⟨sent',hse⟩ : ∃ x,(if B.sent < (B.base + (k : Int)) then (B.base + (k : Int)) else B.sent) = x:=⟨_,rfl⟩
  have HSB : Hid (sentUp B k = sent'):=Lib.hid ( hse)
  go_wp2
  have hc1':=HCV.out wr (fun _ _=>rfl)
  have hbl:=heap_lt R.obj
  go_region_held3 (fun w'=>w'.cell? ⟨b,1,none⟩ = some (.int .i64 B.base) ∧ (convert 52 9 (.slice (some ⟨g,0,none⟩) 0 0)).run Tryz.prog w' = .ok (.string S) w') (first | exact ⟨c1,hc1'⟩ | exact ⟨c1,HCV.out _ (fun _ _=>rfl)⟩ | exact ⟨(((Below.refl _ wr).alloc (Nat.le_refl _) _).cell (p:=⟨b,1,none⟩) hbl).trans c1,HCV.out _ (fun j hj=>Below.heap_alloc _ _ _ hj)⟩) ((fail))
  have HB2 : Hid (Below wr.heap.size wr (wr.alloc (.cells (mkFr 8 (B.base + (k : Int)) S false).cells 38)).drew):=Lib.hid (((Below.refl _ wr).alloc (Nat.le_refl _) _).drew)
  have R2:=Lib.hid (R.below HB2.out)
  have Q2 : Hid ((wr.alloc (.cells (mkFr 8 (B.base + (k : Int)) S false).cells 38)).drew.heap[w.heap.size + 1]? = some (.cells (mkFr 8 (B.base + (k : Int)) S false).cells 38 (0,0))):=Lib.hid (by rw [← hZ];exact heap_alloc_new wr _)
  have Q1 : Hid ((wr.alloc (.cells (mkFr 8 (B.base + (k : Int)) S false).cells 38)).drew.heap[w.heap.size]? = some (.cells (mkFr 0 0 ⟨#[]⟩ false).cells 38 (0,0))):=Lib.hid (heap_below HB2.out hQ)
  have C2:=Lib.hid (hC.trans1 (Chg.below HB2.out))
  change Exit.then _ _ _ _ (wr.alloc (.cells (mkFr 8 (B.base + (k : Int)) S false).cells 38)).drew
  clear HB2 hQ hC hZ R c0 c1 c2 c3 c4 c5 c6 fr hc1' HCV hbl HQ0 HC0 HZ0 HR0
  generalize (wr.alloc (.cells (mkFr 8 (B.base + (k : Int)) S false).cells 38)).drew = W2 at *
  obtain ⟨c0,c1,c2,c3,c4,c5,c6,fr⟩:=R2.out.facts
  have R3:=Lib.hid ((R2.out.set 4 (.int .i64 sent') (B':={ B with st:=setTo B.st 1 k (k - k),sent:=sent' }) rfl rfl rfl).drew)
  have C3:=Lib.hid ((C2.out.set b 4 (.int .i64 sent') R2.out.fb).drew)
  have T9 : Hid ((W2.setCell ⟨b,4,none⟩ (.int .i64 sent')).drew.heap[w.heap.size + 1]? = some (.cells (mkFr 8 (B.base + (k : Int)) S false).cells 38 (0,0))):=Lib.hid ((heap_setCell_other W2 _ _ _ (show w.heap.size + 1 ≠ b by omega)).trans Q2.out)
  have T6 : Hid ((W2.setCell ⟨b,4,none⟩ (.int .i64 sent')).drew.heap[w.heap.size]? = some (.cells (mkFr 0 0 ⟨#[]⟩ false).cells 38 (0,0))):=Lib.hid ((heap_setCell_other W2 _ _ _ (show w.heap.size ≠ b by omega)).trans Q1.out)
  have OP:=Lib.hid (open_any b F _ _ ⟨_,_,R3.out⟩)
  have hcase2 : (k = B.data.length ∧ openF B = true) ∨ ((k = B.data.length ∧ openF B = false) ∨ ¬ k = B.data.length):=by
   by_cases h1 : k = B.data.length
   ·cases h2 : openF B
    ·exact .inr (.inl ⟨h1,rfl⟩)
    ·exact .inl ⟨h1,rfl⟩
   ·exact .inr (.inr h1)
  have HS2:=Lib.hid hS
  rw [show openF { B with st:=setTo B.st 1 k (k - k),sent:=sent' } = openF B from rfl] at OP
  rcases hcase2 with ⟨hkd,hop⟩ | hno
  ·have HF : Hid (finF B k = true):=Lib.hid (by unfold finF;rw [hop,hkd];simp)
   rw [hop] at OP
   have hse2 : (if B.sent < B.base + (B.data.length : Int) then B.base + (B.data.length : Int) else B.sent) = sent':=by rw [← hkd];exact hse
   have hw3 : IntKind.i64.wrap (B.base + (B.data.length : Int)) = B.base + (B.data.length : Int):=by rw [← hkd];exact hw2
   have hne1 : ¬ (w.heap.size + 1 = b):=by omega
   have hne2 : ¬ (b = w.heap.size + 1):=by omega
   have hne3 : ¬ (w.heap.size = b):=by omega
   have FIN : Hid (∀ W3 : World,Rep W3 b F { B with st:=setTo B.st 1 k (k - k),sent:=sent' } _ _ → Chg F w W3 → W3.heap[w.heap.size + 1]? = some (.cells (mkFr 8 (B.base + (k : Int)) S false).cells 38 (0,0)) → W3.heap[w.heap.size]? = some (.cells (mkFr 0 0 ⟨#[]⟩ false).cells 38 (0,0)) → ((W3.setCell ⟨b,6,none⟩ (.int .u8 1)).setCell ⟨w.heap.size + 1,4,none⟩ (.bool true)).heap[w.heap.size + 1]? = some (.cells (mkFr 8 (B.base + (k : Int)) S true).cells 38 (0,0)) ∧ ((W3.setCell ⟨b,6,none⟩ (.int .u8 1)).setCell ⟨w.heap.size + 1,4,none⟩ (.bool true)).heap[w.heap.size]? = some (.cells (mkFr 0 0 ⟨#[]⟩ false).cells 38 (0,0)) ∧ Chg F w ((W3.setCell ⟨b,6,none⟩ (.int .u8 1)).setCell ⟨w.heap.size + 1,4,none⟩ (.bool true)) ∧ Rep ((W3.setCell ⟨b,6,none⟩ (.int .u8 1)).setCell ⟨w.heap.size + 1,4,none⟩ (.bool true)) b F { B with st:=setTo B.st 1 k (k - k),sent:=sent',ed:=1 } _ _):=Lib.hid (fun W3 r c t9 t6=>⟨heap_set (.bool true) ((heap_setCell_other _ _ _ _ hne1).trans t9),(heap_setCell_other _ _ _ _ (by show w.heap.size ≠ w.heap.size + 1;omega)).trans ((heap_setCell_other _ _ _ _ hne3).trans t6),(c.set b 6 _ r.fb).setFar (w.heap.size + 1) 4 _ (by omega),(r.set 6 (.int .u8 1) (B':={ B with st:=setTo B.st 1 k (k - k),sent:=sent',ed:=1 }) rfl rfl rfl).far (w':=((W3.setCell ⟨b,6,none⟩ (.int .u8 1)).setCell ⟨w.heap.size + 1,4,none⟩ (.bool true))) (fun j hj=>heap_setCell_other _ _ _ _ (by have:=HFAR.out j hj;show j ≠ w.heap.size + 1;omega))⟩)
   go_wp2
   go_still_tail 14,(by kernel_rfl)
   go_wp2_with (first | (go_at_call 209;refine OP.out.mono ?_;rintro e w1 ⟨rfl,rfl⟩;have FI:=Lib.hid (FIN.out _ R3.out C3.out T9.out T6.out);clear OP R2 C2 Q1 Q2;generalize (W2.setCell ⟨b,4,none⟩ (.int .i64 sent')).drew = W3 at *;clear c0 c1 c2 c3 c4 c5 c6 fr;have d6:=R3.out.facts.c6;have dfr:=R3.out.facts.fr;have e4:=(cell_whole T9.out 4).trans (rfl : _ = some (Value.bool false));have f9:=frozen_whole T9.out) | (refine wpList_load_row rfl 38 _ rfl (w.heap.size + 1) rfl 38 _ (0,0) _ FI.out.1 Tryz.underlying38 rfl (size38 _) ?_) | (refine wpList_store_row rfl 38 _ _ rfl w.heap.size _ rfl rfl 38 _ FI.out.2.1 (size38 _) rfl (one35 _ _ _ _) ?_))
   refine bodyPost_ret (v:=(mkFr 8 (B.base + (k : Int)) S true).val) (results_cell_row rfl _ _ w.heap.size 38 _ (0,0) _ rfl (setRow_heap _ _ _ _ 38 _ FI.out.2.1) Tryz.underlying38 rfl (size38 _)) rfl ⟨?_,FI.out.2.2.1.setRow _ _ (Nat.le_refl _),?_⟩
   ·unfold frameR;rw [HS2.out,HF.out]
   ·rw [show frameB B k k = { B with st:=setTo B.st 1 k (k - k),sent:=sent',ed:=1 } from by unfold frameB;rw [HSB.out,HF.out];rfl]
    exact ⟨_,_,(FI.out.2.2.2.far (fun j hj=>setRow_other _ _ j _ (by have:=HFAR.out j hj;omega))).ext (fun j hj=>.inl hj)⟩
  ·have HF : Hid (finF B k = false):=Lib.hid (by unfold finF;rcases hno with ⟨_,h⟩ | h;rw [h];simp;simp [h])
   rcases hno with ⟨hkd,hop⟩ | hkd
   ·rw [hop] at OP
    have hse2 : (if B.sent < B.base + (B.data.length : Int) then B.base + (B.data.length : Int) else B.sent) = sent':=by rw [← hkd];exact hse
    have hw3 : IntKind.i64.wrap (B.base + (B.data.length : Int)) = B.base + (B.data.length : Int):=by rw [← hkd];exact hw2
    go_wp2
    go_still_tail 14,(by kernel_rfl)
    go_wp2_with (first | (go_at_call 209;refine OP.out.mono ?_;rintro e w1 ⟨rfl,rfl⟩) | (refine wpList_load_row rfl 38 _ rfl (w.heap.size + 1) rfl 38 _ (0,0) _ T9.out Tryz.underlying38 rfl (size38 _) ?_) | (refine wpList_store_row rfl 38 _ _ rfl w.heap.size _ rfl rfl 38 _ T6.out (size38 _) rfl (one35 _ _ _ _) ?_))
    refine bodyPost_ret (v:=(mkFr 8 (B.base + (k : Int)) S false).val) (results_cell_row rfl _ _ w.heap.size 38 _ (0,0) _ rfl (setRow_heap _ _ _ _ 38 _ T6.out) Tryz.underlying38 rfl (size38 _)) rfl ⟨?_,C3.out.setRow _ _ (Nat.le_refl _),?_⟩
    ·unfold frameR;rw [HS2.out,HF.out]
    ·rw [show frameB B k k = { B with st:=setTo B.st 1 k (k - k),sent:=sent' } from by unfold frameB;rw [HSB.out,HF.out];rfl]
     exact ⟨_,_,(R3.out.far (fun j hj=>setRow_other _ _ j _ (by have:=HFAR.out j hj;omega))).ext (fun j hj=>.inl hj)⟩
   ·have hkd2 : ¬ ((k : Nat) : Int) = (B.data.length : Int):=by omega
    go_wp2
    go_still_tail 14,(by kernel_rfl)
    go_wp2_with (first | (go_at_call 209;refine OP.out.mono ?_;rintro e w1 ⟨rfl,rfl⟩) | (refine wpList_load_row rfl 38 _ rfl (w.heap.size + 1) rfl 38 _ (0,0) _ T9.out Tryz.underlying38 rfl (size38 _) ?_) | (refine wpList_store_row rfl 38 _ _ rfl w.heap.size _ rfl rfl 38 _ T6.out (size38 _) rfl (one35 _ _ _ _) ?_))
    refine bodyPost_ret (v:=(mkFr 8 (B.base + (k : Int)) S false).val) (results_cell_row rfl _ _ w.heap.size 38 _ (0,0) _ rfl (setRow_heap _ _ _ _ 38 _ T6.out) Tryz.underlying38 rfl (size38 _)) rfl ⟨?_,C3.out.setRow _ _ (Nat.le_refl _),?_⟩
    ·unfold frameR;rw [HS2.out,HF.out]
    ·rw [show frameB B k k = { B with st:=setTo B.st 1 k (k - k),sent:=sent' } from by unfold frameB;rw [HSB.out,HF.out];rfl]
     exact ⟨_,_,(R3.out.far (fun j hj=>setRow_other _ _ j _ (by have:=HFAR.out j hj;omega))).ext (fun j hj=>.inl hj)⟩
end
section
open Go.RowKit
theorem frame_nil (b : Nat) (F : Nat → Prop) (B : Bf) (w : World) (vs : Value) (h : Rep w b F B (.slice none 0 0) vs) (hg : Good B) :
  Calls Tryz.prog 208 #[.pointer (some ⟨b,0,none⟩),.int .i64 0,.int .i64 0] w fun e w'=>e = .returned (frameR B 0 0).val ∧ Chg F w w' ∧ Inv w' b (Ext F w w') (frameB B 0 0):=by
 obtain ⟨l1,l2,b0,b1,len,cp,s0,s1⟩:=hg
 have hn9 : B.st.length ≤ 8192:=by omega
 obtain ⟨a2,caps,rfl,hcaps⟩:=own_form h.rs
 have HD0 : Hid (B.data.length = 0):=Lib.hid (by rcases h.rd.2 with ⟨e,e2⟩ | ⟨g,cap,cur,e,_⟩;exact e2;cases e)
 have HR0:=Lib.hid (h.below (show Below w.heap.size w (w.alloc (.cells (mkFr 0 0 ⟨#[]⟩ false).cells 38)) from (Below.refl _ w).alloc (Nat.le_refl _) _))
 go_enter Tryz.func208,Tryz.ntmps208
 go_wp2
 have HQ0 : Hid ((w.alloc (.cells (mkFr 0 0 ⟨#[]⟩ false).cells 38)).heap[w.heap.size]? = some (.cells (mkFr 0 0 ⟨#[]⟩ false).cells 38 (0,0))):=Lib.hid (heap_alloc_new w _)
 have HC0 : Hid (Chg F w (w.alloc (.cells (mkFr 0 0 ⟨#[]⟩ false).cells 38))):=Lib.hid (Chg.below ((Below.refl _ w).alloc (Nat.le_refl _) _))
 have HZ0 : Hid ((w.alloc (.cells (mkFr 0 0 ⟨#[]⟩ false).cells 38)).heap.size = w.heap.size + 1):=Lib.hid (by simp)
 have HLT:=Lib.hid (own_lt h.rs)
 have HBL:=Lib.hid (heap_lt h.obj)
 have HDL:=Lib.hid (own_lt h.rd)
 change Code.wp _ _ _ _ (w.alloc (.cells (mkFr 0 0 ⟨#[]⟩ false).cells 38))
 generalize w.alloc (.cells (mkFr 0 0 ⟨#[]⟩ false).cells 38) = W0 at *
 have HFAR : Hid (∀ k,(k = b ∨ (Value.slice none 0 0).ownBlock = some k ∨ (Value.slice a2 B.st.length caps).ownBlock = some k) → k < w.heap.size):=Lib.hid (fun k hk=>by rcases hk with rfl | hk | hk;exact HBL.out;exact HDL.out k hk;exact HLT.out k hk)
 have hbl0 : b < w.heap.size:=HBL.out
 clear h
 go_loopw [7] (fun i wr=>∃ (k : Nat),k ≤ 0 ∧ i = .int .i64 k ∧ Rep wr b F { B with st:=setTo B.st 1 0 k } (.slice none 0 0) (.slice a2 B.st.length caps) ∧ Chg F w wr ∧ wr.heap[w.heap.size]? = some (.cells (mkFr 0 0 ⟨#[]⟩ false).cells 38 (0,0)) ∧ wr.heap.size = w.heap.size + 1) (fun i _=>0 - (intOf i).toNat)
 case atStart=>exact ⟨0,by omega,rfl,by exact HR0.out,HC0.out,HQ0.out,HZ0.out⟩
 case round=>
  obtain ⟨k,hk1,rfl,R,hC,hQ,hZ⟩:=hrel
  obtain rfl : k = 0:=by omega
  obtain ⟨c0,c1,c2,c3,c4,c5,c6,fr⟩:=R.facts
  obtain ⟨S,hS⟩ : ∃ S,strOfNums ((B.data.drop 0).take (0 - 0)) = S:=⟨_,rfl⟩
  have HCV : Hid (∀ w' : World,(∀ j,j < wr.heap.size → w'.heap[j]? = wr.heap[j]?) → (convert 52 9 (.slice none 0 0)).run Tryz.prog w' = .ok (.string S) w'):=Lib.hid (fun w' hw=>by rw [← hS];exact run_convert_bytes_nil w' 52 5 Tryz.underlying52 Tryz.underlying5 0 0 9 Tryz.underlying9)
  have hw1 : IntKind.i64.wrap B.base = B.base:=IntWalk.i64_in _ (by omega)
  have hw2 : IntKind.i64.wrap B.base = B.base:=IntWalk.i64_in _ (by omega)
  obtain ⟨sent',hse⟩ : ∃ x,(if B.sent < B.base then B.base else B.sent) = x:=⟨_,rfl⟩
  have HSB : Hid (sentUp B 0 = sent'):=Lib.hid (by unfold sentUp;simpa using hse)
  go_wp2
  have hc1':=HCV.out wr (fun _ _=>rfl)
  have hbl:=heap_lt R.obj
  go_region_held3 (fun w'=>w'.cell? ⟨b,1,none⟩ = some (.int .i64 B.base) ∧ (convert 52 9 (.slice none 0 0)).run Tryz.prog w' = .ok (.string S) w') (first | exact ⟨c1,hc1'⟩ | exact ⟨c1,HCV.out _ (fun _ _=>rfl)⟩ | exact ⟨(((Below.refl _ wr).alloc (Nat.le_refl _) _).cell (p:=⟨b,1,none⟩) hbl).trans c1,HCV.out _ (fun j hj=>Below.heap_alloc _ _ _ hj)⟩) ((fail))
  have HB2 : Hid (Below wr.heap.size wr (wr.alloc (.cells (mkFr 8 B.base S false).cells 38)).drew):=Lib.hid (((Below.refl _ wr).alloc (Nat.le_refl _) _).drew)
  have R2:=Lib.hid (R.below HB2.out)
  have Q2 : Hid ((wr.alloc (.cells (mkFr 8 B.base S false).cells 38)).drew.heap[w.heap.size + 1]? = some (.cells (mkFr 8 B.base S false).cells 38 (0,0))):=Lib.hid (by rw [← hZ];exact heap_alloc_new wr _)
  have Q1 : Hid ((wr.alloc (.cells (mkFr 8 B.base S false).cells 38)).drew.heap[w.heap.size]? = some (.cells (mkFr 0 0 ⟨#[]⟩ false).cells 38 (0,0))):=Lib.hid (heap_below HB2.out hQ)
  have C2:=Lib.hid (hC.trans1 (Chg.below HB2.out))
  change Exit.then _ _ _ _ (wr.alloc (.cells (mkFr 8 B.base S false).cells 38)).drew
  clear HB2 hQ hC hZ R c0 c1 c2 c3 c4 c5 c6 fr hc1' HCV hbl HQ0 HC0 HZ0 HR0
  generalize (wr.alloc (.cells (mkFr 8 B.base S false).cells 38)).drew = W2 at *
  obtain ⟨c0,c1,c2,c3,c4,c5,c6,fr⟩:=R2.out.facts
  have R3:=Lib.hid ((R2.out.set 4 (.int .i64 sent') (B':={ B with st:=setTo B.st 1 0 0,sent:=sent' }) rfl rfl rfl).drew)
  have C3:=Lib.hid ((C2.out.set b 4 (.int .i64 sent') R2.out.fb).drew)
  have T9 : Hid ((W2.setCell ⟨b,4,none⟩ (.int .i64 sent')).drew.heap[w.heap.size + 1]? = some (.cells (mkFr 8 B.base S false).cells 38 (0,0))):=Lib.hid ((heap_setCell_other W2 _ _ _ (show w.heap.size + 1 ≠ b by omega)).trans Q2.out)
  have T6 : Hid ((W2.setCell ⟨b,4,none⟩ (.int .i64 sent')).drew.heap[w.heap.size]? = some (.cells (mkFr 0 0 ⟨#[]⟩ false).cells 38 (0,0))):=Lib.hid ((heap_setCell_other W2 _ _ _ (show w.heap.size ≠ b by omega)).trans Q1.out)
  have OP:=Lib.hid (open_any b F _ _ ⟨_,_,R3.out⟩)
  have hcase2 : (0 = B.data.length ∧ openF B = true) ∨ ((0 = B.data.length ∧ openF B = false) ∨ ¬ 0 = B.data.length):=by
   by_cases h1 : 0 = B.data.length
   ·cases h2 : openF B
    ·exact .inr (.inl ⟨h1,rfl⟩)
    ·exact .inl ⟨h1,rfl⟩
   ·exact .inr (.inr h1)
  have HS2:=Lib.hid hS
  rw [show openF { B with st:=setTo B.st 1 0 0,sent:=sent' } = openF B from rfl] at OP
  rcases hcase2 with ⟨hkd,hop⟩ | hno
  ·have HF : Hid (finF B 0 = true):=Lib.hid (by unfold finF;rw [hop,← hkd];simp)
   clear hkd
   rw [hop] at OP
   have hne1 : ¬ (w.heap.size + 1 = b):=by omega
   have hne2 : ¬ (b = w.heap.size + 1):=by omega
   have hne3 : ¬ (w.heap.size = b):=by omega
   have FIN : Hid (∀ W3 : World,Rep W3 b F { B with st:=setTo B.st 1 0 0,sent:=sent' } _ _ → Chg F w W3 → W3.heap[w.heap.size + 1]? = some (.cells (mkFr 8 B.base S false).cells 38 (0,0)) → W3.heap[w.heap.size]? = some (.cells (mkFr 0 0 ⟨#[]⟩ false).cells 38 (0,0)) → ((W3.setCell ⟨b,6,none⟩ (.int .u8 1)).setCell ⟨w.heap.size + 1,4,none⟩ (.bool true)).heap[w.heap.size + 1]? = some (.cells (mkFr 8 B.base S true).cells 38 (0,0)) ∧ ((W3.setCell ⟨b,6,none⟩ (.int .u8 1)).setCell ⟨w.heap.size + 1,4,none⟩ (.bool true)).heap[w.heap.size]? = some (.cells (mkFr 0 0 ⟨#[]⟩ false).cells 38 (0,0)) ∧ Chg F w ((W3.setCell ⟨b,6,none⟩ (.int .u8 1)).setCell ⟨w.heap.size + 1,4,none⟩ (.bool true)) ∧ Rep ((W3.setCell ⟨b,6,none⟩ (.int .u8 1)).setCell ⟨w.heap.size + 1,4,none⟩ (.bool true)) b F { B with st:=setTo B.st 1 0 0,sent:=sent',ed:=1 } _ _):=Lib.hid (fun W3 r c t9 t6=>⟨heap_set (.bool true) ((heap_setCell_other _ _ _ _ hne1).trans t9),(heap_setCell_other _ _ _ _ (by show w.heap.size ≠ w.heap.size + 1;omega)).trans ((heap_setCell_other _ _ _ _ hne3).trans t6),(c.set b 6 _ r.fb).setFar (w.heap.size + 1) 4 _ (by omega),(r.set 6 (.int .u8 1) (B':={ B with st:=setTo B.st 1 0 0,sent:=sent',ed:=1 }) rfl rfl rfl).far (w':=((W3.setCell ⟨b,6,none⟩ (.int .u8 1)).setCell ⟨w.heap.size + 1,4,none⟩ (.bool true))) (fun j hj=>heap_setCell_other _ _ _ _ (by have:=HFAR.out j hj;show j ≠ w.heap.size + 1;omega))⟩)
   go_wp2
   go_still_tail 14,(by kernel_rfl)
   go_wp2_with (first | (go_at_call 209;refine OP.out.mono ?_;rintro e w1 ⟨rfl,rfl⟩;have FI:=Lib.hid (FIN.out _ R3.out C3.out T9.out T6.out);clear OP R2 C2 Q1 Q2;generalize (W2.setCell ⟨b,4,none⟩ (.int .i64 sent')).drew = W3 at *;clear c0 c1 c2 c3 c4 c5 c6 fr;have d6:=R3.out.facts.c6;have dfr:=R3.out.facts.fr;have e4:=(cell_whole T9.out 4).trans (rfl : _ = some (Value.bool false));have f9:=frozen_whole T9.out) | (refine wpList_load_row rfl 38 _ rfl (w.heap.size + 1) rfl 38 _ (0,0) _ FI.out.1 Tryz.underlying38 rfl (size38 _) ?_) | (refine wpList_store_row rfl 38 _ _ rfl w.heap.size _ rfl rfl 38 _ FI.out.2.1 (size38 _) rfl (one35 _ _ _ _) ?_))
   refine bodyPost_ret (v:=(mkFr 8 B.base S true).val) (results_cell_row rfl _ _ w.heap.size 38 _ (0,0) _ rfl (setRow_heap _ _ _ _ 38 _ FI.out.2.1) Tryz.underlying38 rfl (size38 _)) rfl ⟨?_,FI.out.2.2.1.setRow _ _ (Nat.le_refl _),?_⟩
   ·unfold frameR;rw [HS2.out,HF.out];simp
   ·rw [show frameB B 0 0 = { B with st:=setTo B.st 1 0 0,sent:=sent',ed:=1 } from by unfold frameB;rw [HSB.out,HF.out];rfl]
    exact ⟨_,_,(FI.out.2.2.2.far (fun j hj=>setRow_other _ _ j _ (by have:=HFAR.out j hj;omega))).ext (fun j hj=>.inl hj)⟩
  ·have HF : Hid (finF B 0 = false):=Lib.hid (by unfold finF;rcases hno with ⟨_,h⟩ | h;rw [h];simp;simp [h])
   rcases hno with ⟨hkd,hop⟩ | hkd
   ·clear hkd
    rw [hop] at OP
    go_wp2
    go_still_tail 14,(by kernel_rfl)
    go_wp2_with (first | (go_at_call 209;refine OP.out.mono ?_;rintro e w1 ⟨rfl,rfl⟩) | (refine wpList_load_row rfl 38 _ rfl (w.heap.size + 1) rfl 38 _ (0,0) _ T9.out Tryz.underlying38 rfl (size38 _) ?_) | (refine wpList_store_row rfl 38 _ _ rfl w.heap.size _ rfl rfl 38 _ T6.out (size38 _) rfl (one35 _ _ _ _) ?_))
    refine bodyPost_ret (v:=(mkFr 8 B.base S false).val) (results_cell_row rfl _ _ w.heap.size 38 _ (0,0) _ rfl (setRow_heap _ _ _ _ 38 _ T6.out) Tryz.underlying38 rfl (size38 _)) rfl ⟨?_,C3.out.setRow _ _ (Nat.le_refl _),?_⟩
    ·unfold frameR;rw [HS2.out,HF.out];simp
    ·rw [show frameB B 0 0 = { B with st:=setTo B.st 1 0 0,sent:=sent' } from by unfold frameB;rw [HSB.out,HF.out];rfl]
     exact ⟨_,_,(R3.out.far (fun j hj=>setRow_other _ _ j _ (by have:=HFAR.out j hj;omega))).ext (fun j hj=>.inl hj)⟩
   ·exact absurd HD0.out.symm hkd
theorem frame_any (b : Nat) (F : Nat → Prop) (B : Bf) (f t : Nat) (w : World) (h : Inv w b F B) (hg : Good B) (hft : f ≤ t) (ht : t ≤ B.data.length) :
  Calls Tryz.prog 208 #[.pointer (some ⟨b,0,none⟩),.int .i64 f,.int .i64 t] w fun e w'=>e = .returned (frameR B f t).val ∧ Chg F w w' ∧ Inv w' b (Ext F w w') (frameB B f t):=by
 by_cases hlt : f < t
 ·exact frame_piece b F B f t w h hg hft ht hlt
 ·obtain rfl : f = t:=by omega
  obtain ⟨vd,vs,h⟩:=h
  rcases h.rd.2 with ⟨e,e2⟩ | ⟨g,cap,cur,e,_⟩
  ·subst e
   obtain rfl : f = 0:=by omega
   exact frame_nil b F B w vs h hg
  ·subst e
   exact frame_empty b F B f w g cap vs h hg ht
end
section
open Go.RowKit
theorem runGo_bound (most : Int) : ∀ (l : List Int) (i f t : Int),0 ≤ f → f ≤ t → t ≤ i → 0 ≤ (runGo most l i f t).1 ∧ (runGo most l i f t).1 ≤ (runGo most l i f t).2 ∧ (runGo most l i f t).2 ≤ i + l.length:=by
 intro l
 induction l with
 | nil=>intro i f t h1 h2 h3;simp only [runGo];exact ⟨h1,h2,by simp;omega⟩
 | cons s l ih=>
  intro i f t h1 h2 h3
  rw [runGo]
  simp only [List.length_cons,Int.natCast_add,Int.cast_ofNat_Int]
  split
  ·exact ⟨h1,h2,by simp only [];omega⟩
  ·split
   ·have:=ih (i + 1) i (i + 1) (by omega) (by omega) (by omega)
    exact ⟨this.1,this.2.1,by have:=this.2.2;omega⟩
   ·split
    ·have:=ih (i + 1) f (t + 1) (by omega) (by omega) (by omega)
     exact ⟨this.1,this.2.1,by have:=this.2.2;omega⟩
    ·have:=ih (i + 1) f t (by omega) (by omega) (by omega)
     exact ⟨this.1,this.2.1,by have:=this.2.2;omega⟩
theorem runF_bound (B : Bf) (most : Int) : 0 ≤ (runF B most).1 ∧ (runF B most).1 ≤ (runF B most).2 ∧ (runF B most).2 ≤ B.st.length:=by
 have:=runGo_bound most B.st 0 0 0 (by omega) (by omega) (by omega)
 unfold runF
 exact ⟨this.1,this.2.1,by have:=this.2.2;omega⟩
/-- the frame that Next takes, as indexes -/
def nextP (B : Bf) (most credit : Int) : Option (Nat × Nat):=
 if most < 0 then none
 else if 0 < most ∧ (runF B most).1 < (runF B most).2 then some ((runF B most).1.toNat,(runF B most).2.toNat)
 else if 0 < writtenF B - B.sent ∧ 0 < most ∧ 0 < credit then some ((B.sent - B.base).toNat,(B.sent - B.base + min (writtenF B - B.sent) (min most credit)).toNat)
 else if writtenF B - B.sent = 0 ∧ openF B = true then some ((B.sent - B.base).toNat,(B.sent - B.base).toNat)
 else none
def nextB (B : Bf) : Option (Nat × Nat) → Bf
 | none=>B
 | some p=>frameB B p.1 p.2
def fr0 : Fr:=mkFr 0 0 ⟨#[]⟩ false
def nextR (B : Bf) : Option (Nat × Nat) → Fr
 | none=>fr0
 | some p=>frameR B p.1 p.2
def Own (w : World) (F : Nat → Prop) (k : Nat) : Prop:=F k ∧ k < w.heap.size
theorem Inv.own {w : World} {b : Nat} {F : Nat → Prop} {B : Bf} (h : Inv w b F B) : Inv w b (Own w F) B:=by
 obtain ⟨vd,vs,h⟩:=h
 exact ⟨vd,vs,h.obj,h.rd,h.rs,⟨h.fb,heap_lt h.obj⟩,fun k hk=>⟨⟨(h.fd k hk).1,own_lt h.rd k hk⟩,(h.fd k hk).2⟩,fun k hk=>⟨⟨(h.fs k hk).1,own_lt h.rs k hk⟩,(h.fs k hk).2⟩⟩
theorem next_glue {w w1 w2 : World} {b : Nat} {F : Nat → Prop} {B : Bf} (h0 : Below w.heap.size w w1) (hz : w1.heap.size = w.heap.size + 1) (hC : Chg (Own w F) w1 w2) (hI : Inv w2 b (Ext (Own w F) w1 w2) B) (cs : Array Value) :
  Chg F w (w2.setRow w.heap.size cs) ∧ Inv (w2.setRow w.heap.size cs) b (Ext F w (w2.setRow w.heap.size cs)) B:=by
 have hs:=hC.size
 refine ⟨?_,?_⟩
 ·refine Chg.setRow ⟨hC.os.trans h0.os,hC.tape.trans h0.tape,hC.output.trans h0.output,by omega,fun k hk hf=>?_⟩ _ _ (Nat.le_refl _)
  exact (hC.block k (by omega) (fun e=>hf e.1)).trans (h0.block k hk)
 ·obtain ⟨vd,vs,hI⟩:=hI
  have hne : ∀ k,Ext (Own w F) w1 w2 k → k ≠ w.heap.size:=fun k hk e=>by rcases hk with hk | hk;exact Nat.lt_irrefl _ (e ▸ hk.2);omega
  refine ⟨vd,vs,(hI.far (fun k hk=>setRow_other _ _ k _ (hne k ?_))).ext (fun k hk=>?_)⟩
  ·rcases hk with rfl | hk | hk
   ·exact hI.fb
   ·exact (hI.fd k hk).1
   ·exact (hI.fs k hk).1
  ·rcases hk with hk | hk
   ·exact .inl hk.1
   ·exact .inr ⟨by omega,by simpa using hk.2⟩
theorem results_cell_tmp {P : Program} {fn : Func} {p q : Tmp} {ty : TypeId} (h : fn.results = #[.cell p ty,.tmp q]) (tmps : Array Value) (w : World) (g : Nat) (t : TypeId) (cs : Array Value) (fr : Nat × Nat) (d : TypeDesc)
  (hp : tmps.getD p undef = .pointer (some ⟨g,0,none⟩)) (hg : w.heap[g]? = some (.cells cs t fr))
  (hu : P.underlying ty = some d) (hd : (match d with | .struct _ | .array _ _=>true | _=>false) = true) (hi : (P.info? ty).map (·.size) = some cs.size) :
  (results fn tmps).run P w = .ok (.tuple #[.agg cs,tmps.getD q undef]) w:=by
 have hp' : tmps[p]?.getD undef = .pointer (some ⟨g,0,none⟩):=by simpa using hp
 simp [results,h,hp',asAddr,run_loadVar_row w g t ty cs fr d hg hu hd hi]
theorem Inv.ext {w : World} {b : Nat} {F G : Nat → Prop} {B : Bf} (h : Inv w b F B) (hs : ∀ k,F k → G k) : Inv w b G B:=by obtain ⟨vd,vs,h⟩:=h;exact ⟨vd,vs,h.ext hs⟩
end
section
open Go.RowKit
def nextE (B : Bf) (P : Option (Nat × Nat)) : Ending:=.returned (.tuple #[(nextR B P).val,.bool P.isSome])
def NextPost (b : Nat) (F : Nat → Prop) (B : Bf) (P : Option (Nat × Nat)) (w : World) (e : Ending) (w' : World) : Prop:=e = nextE B P ∧ Chg F w w' ∧ Inv w' b (Ext F w w') (nextB B P)
theorem next_neg (b : Nat) (F : Nat → Prop) (B : Bf) (most credit : Int) (w : World) (h : Inv w b F B) (hm : most < 0) :
  Calls Tryz.prog 135 #[.pointer (some ⟨b,0,none⟩),.int .i64 most,.int .i64 credit] w (NextPost b F B none w):=by
 have H0 : Below w.heap.size w (w.alloc (.cells fr0.cells 38)):=(Below.refl _ w).alloc (Nat.le_refl _) _
 have HI : Hid (Chg F w (w.alloc (.cells fr0.cells 38)) ∧ Inv (w.alloc (.cells fr0.cells 38)) b (Ext F w (w.alloc (.cells fr0.cells 38))) B):=Lib.hid ⟨Chg.below H0,(h.below H0).ext (fun k hk=>.inl hk)⟩
 have HQ:=Lib.hid (heap_alloc_new w (.cells fr0.cells 38))
 go_enter Tryz.func135,Tryz.ntmps135
 go_wp2
 exact bodyPost_ret (results_cell_tmp rfl _ _ w.heap.size 38 fr0.cells (0,0) _ rfl HQ.out Tryz.underlying38 rfl (size38 _)) rfl ⟨rfl,HI.out⟩
theorem next_run (b : Nat) (F : Nat → Prop) (B : Bf) (most credit : Int) (w : World) (h : Inv w b F B) (hg : Good B) (hm : 0 < most) (f t : Nat) (hf : (runF B most).1 = f) (ht : (runF B most).2 = t) (hft : f < t) :
  Calls Tryz.prog 135 #[.pointer (some ⟨b,0,none⟩),.int .i64 most,.int .i64 credit] w (NextPost b F B (some (f,t)) w):=by
 have hrb:=runF_bound B most
 have htl : t ≤ B.data.length:=by have:=hg.len;omega
 have H0 : Below w.heap.size w (w.alloc (.cells fr0.cells 38)):=(Below.refl _ w).alloc (Nat.le_refl _) _
 have HI:=Lib.hid (fun w2=>@next_glue w _ w2 b F (frameB B f t) H0 (by simp))
 have HQ:=Lib.hid (heap_alloc_new w (.cells fr0.cells 38))
 have HZ : Hid ((w.alloc (.cells fr0.cells 38)).heap.size = w.heap.size + 1):=Lib.hid (by simp)
 have RN:=Lib.hid (run_any b F B most (w.alloc (.cells fr0.cells 38)) (h.below H0) hg)
 have FR:=Lib.hid (frame_any b (Own w F) B f t (w.alloc (.cells fr0.cells 38)) (h.own.below H0) hg (by omega) htl)
 rw [hf,ht] at RN
 clear hrb hf ht h hg htl
 go_enter Tryz.func135,Tryz.ntmps135
 go_wp2_with (first | (go_at_call 207;refine RN.out.mono ?_;rintro e w1 ⟨rfl,rfl⟩) | (go_at_call 208;refine FR.out.mono ?_;rintro e w2 ⟨rfl,hC,hI⟩;have GL:=Lib.hid (HI.out w2 hC hI);have HQ2:=Lib.hid ((hC.block w.heap.size (by rw [HZ.out];omega) (fun e=>Nat.lt_irrefl _ e.2)).trans HQ.out)) | (refine wpList_store_row rfl 38 _ _ rfl w.heap.size _ rfl rfl 38 _ HQ2.out (size38 _) rfl (one35 _ _ _ _) ?_))
 exact bodyPost_ret (results_cell_tmp rfl _ _ w.heap.size 38 (frameR B f t).cells (0,0) _ rfl (setRow_heap _ _ _ _ 38 _ HQ2.out) Tryz.underlying38 rfl (size38 _)) rfl ⟨rfl,GL.out _⟩
end
end Go.Proofs.YthckbmcmdcemkaaGreatDoor
