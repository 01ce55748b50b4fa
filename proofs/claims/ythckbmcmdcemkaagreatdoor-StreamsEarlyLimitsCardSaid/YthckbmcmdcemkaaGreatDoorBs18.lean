/- Texts of this claim, one behind the other: Rtb Rtd. -/
import Derived.Deep.RegionLaw
import Derived.Test.YthckbmcmdcemkaaGreatDoorBs17
import Derived.Deep.RegionWith
import Derived.Test.YthckbmcmdcemkaaGreatDoorBs15
set_option maxRecDepth 100000
set_option maxHeartbeats 16000000
set_option linter.unusedSimpArgs false
set_option linter.unusedVariables false
namespace Go.Proofs.YthckbmcmdcemkaaGreatDoor.rea
section
open Go.RowKit Go.Lib
theorem u8one (l : List Int) : ∀ v ∈ l.map (Value.int .u8),v.oneCell' = true:=fun v hv=>by obtain ⟨x,_,rfl⟩:=List.mem_map.1 hv;rfl
theorem blone (l : List Bool) : ∀ v ∈ l.map Value.bool,v.oneCell' = true:=fun v hv=>by obtain ⟨x,_,rfl⟩:=List.mem_map.1 hv;rfl
theorem tinfo5 : (Tryz.prog.info? 5).map (·.size) = some 1:=by kernel_rfl
theorem tinfo4 : (Tryz.prog.info? 4).map (·.size) = some 1:=by kernel_rfl
theorem tz5 (w : World) : (zeroValue 5).run Tryz.prog w = .ok (.int .u8 0) w:=by kernel_rfl
theorem tz4 (w : World) : (zeroValue 4).run Tryz.prog w = .ok (.bool false) w:=by kernel_rfl
theorem Tr.drew {b g1 g2 : Nat} {x y : World} (h : Tr b g1 g2 x y) : Tr b g1 g2 x y.drew:=h.below (by first | exact (Below.refl _ y).drew | exact belowN (Below.refl _ y) 1)
theorem take_end {w w5 : World} {b g1 g2 : Nat} {R : Rb} (n m L : Nat) (hT : Tr b g1 g2 w w5)
  (h1 : w5.heap[g1]? = some (.cells (List.take m (List.drop n (R.bs.map (Value.int .u8)) ++ List.drop m (R.bs.map (Value.int .u8))) ++ List.replicate (L - m) (Value.int .u8 0)).toArray 5 (0,0)))
  (h2 : w5.heap[g2]? = some (.cells (List.take m (List.drop n (R.hs.map Value.bool) ++ List.drop m (R.hs.map Value.bool)) ++ List.replicate (L - m) (Value.bool false)).toArray 4 (0,0)))
  (hB : w5.heap[b]? = some (.cells (R.cells g1 g2) 227 (0,0))) (hL : R.bs.length = L) (hl : R.hs.length = L) (hnm : n + m = L) (hsm : L ≤ 8192) (ne : b ≠ g1 ∧ b ≠ g2 ∧ g1 ≠ g2) :
  Tr b g1 g2 w (w5.setCell ⟨b,0,none⟩ (.int .i64 ((R.at_ : Int) + (n : Int)))) ∧ RbAt (w5.setCell ⟨b,0,none⟩ (.int .i64 ((R.at_ : Int) + (n : Int)))) b g1 g2 { R with at_:=R.at_ + n,bs:=takeB n R.bs,hs:=takeH n R.hs }:=by
 have e : ∀ k,b ≠ k → (w5.setCell ⟨b,0,none⟩ (.int .i64 ((R.at_ : Int) + (n : Int)))).heap[k]? = w5.heap[k]?:=fun k hk=>heap_setCell_other w5 _ k _ (by first | exact hk | exact hk.symm)
 refine ⟨hT.set (.inl rfl) _,⟨?_,?_,?_,by simp [takeH_length,takeB_length];omega,by simp [takeB_length];omega⟩⟩
 ·rw [heap_set _ hB]
  simp [Rb.cells,takeB_length]
 ·rw [e g1 ne.1,h1]
  unfold u8s takeB
  rw [List.take_append_of_le_length (by simp;omega),List.take_of_length_le (by simp;omega)]
  simp only [List.map_append,List.map_drop,List.map_replicate,show min n R.bs.length = L - m by omega]
 ·rw [e g2 ne.2.1,h2]
  unfold bls takeH
  rw [List.take_append_of_le_length (by simp;omega),List.take_of_length_le (by simp;omega)]
  simp only [List.map_append,List.map_drop,List.map_replicate,show min n R.hs.length = L - m by omega]
theorem take_any (b g1 g2 : Nat) (R : Rb) (n : Nat) (w : World) (h : RbAt w b g1 g2 R) (hn : n ≤ R.bs.length) (ha : R.at_ ≤ 1125899906842624) :
  Calls Tryz.prog 219 #[.pointer (some ⟨b,0,none⟩),.int .i64 n] w fun e w'=>e = .returned (.string (strOfNums (R.bs.take n))) ∧ Tr b g1 g2 w w' ∧ RbAt w' b g1 g2 { R with at_:=R.at_ + n,bs:=takeB n R.bs,hs:=takeH n R.hs }:=by
 obtain ⟨c0,c1,c2,c3,c4,c5⟩:=h.cells
 have H:=Lib.hid h
 have hsm:=h.sm
 have hl:=h.hl
 have NE:=Lib.hid h.ne
 have hcv : (convert 52 9 (.slice (some ⟨g1,0,none⟩) n R.bs.length)).run Tryz.prog w = .ok (.string (strOfNums (R.bs.take n))) w:=
  run_convert_bytes_arg w 52 5 Tryz.underlying52 Tryz.underlying5 g1 0 n R.bs.length (R.bs.take n) (by simp;omega) (fun i hi=>by
   rw [Nat.zero_add,h.byte i (by omega),List.getD_eq_getElem?_getD,List.getElem?_take_of_lt hi]) 9 Tryz.underlying9
 have O1:=Lib.hid (show w.heap[g1]? = some (.cells (R.bs.map (Value.int .u8)).toArray 5 (0,0)) from h.o1)
 have O2:=Lib.hid (show w.heap[g2]? = some (.cells (R.hs.map Value.bool).toArray 4 (0,0)) from h.o2)
 have OB:=Lib.hid h.ob
 have LB:=Lib.hid (show (R.bs.map (Value.int .u8)).length = R.bs.length from by simp)
 have LH:=Lib.hid (show (R.hs.map Value.bool).length = R.bs.length from by simp [hl])
 have HS:=Lib.hid (show strOfNums (R.bs.take n) = strOfNums (R.bs.take n) from rfl)
 generalize hS : strOfNums (R.bs.take n) = S at hcv ⊢
 have HPM:=Lib.hid (show n + (R.bs.length - n) = R.bs.length from by omega)
 have HPM2:=Lib.hid (show (R.bs.length - n) + n = R.bs.length from by omega)
 have RC:=Lib.hid (show ∀ w1 : World,w1.heap[b]? = some (.cells (R.cells g1 g2) 227 (0,0)) → w1.cell? ⟨b,0,none⟩ = some (.int .i64 R.at_) ∧ w1.cell? ⟨b,1,none⟩ = some (.slice (some ⟨g1,0,none⟩) R.bs.length R.bs.length) ∧ w1.cell? ⟨b,2,none⟩ = some (.slice (some ⟨g2,0,none⟩) R.bs.length R.bs.length) ∧ w1.frozen? ⟨b,0,none⟩ = false from fun w1 h1=>⟨at_whole h1 0 rfl,at_whole h1 1 rfl,at_whole h1 2 rfl,frozen_whole h1 0⟩)
 generalize hL : R.bs.length = L at *
 obtain ⟨m,hm⟩ : ∃ m,L - n = m:=⟨_,rfl⟩
 rw [hm] at HPM HPM2
 have hml : m ≤ L:=by omega
 have HLM:=Lib.hid (show m + (L - m) = L from by omega)
 obtain ⟨Z,hZ⟩ : ∃ Z : Option Addr,(if L = n then some (⟨g1,0,none⟩ : Addr) else some ⟨g1,n,none⟩) = Z:=⟨_,rfl⟩
 have HNE : Hid (0 < m → Z = some ⟨g1,n,none⟩):=Lib.hid (fun h=>by rw [← hZ];exact if_neg (by omega))
 obtain ⟨Z2,hZ2⟩ : ∃ Z : Option Addr,(if L = n then some (⟨g2,0,none⟩ : Addr) else some ⟨g2,n,none⟩) = Z:=⟨_,rfl⟩
 have HNE2 : Hid (0 < m → Z2 = some ⟨g2,n,none⟩):=Lib.hid (fun h=>by rw [← hZ2];exact if_neg (by omega))
 clear h c3 c4 c5 hS
 go_enter Tryz.func219,Tryz.ntmps219
 go_wp2_with fail
 go_region_law ((refine step_copy_end rfl (.tmp 17) (.tmp 23) 52 52 rfl 5 Tryz.underlying52 tinfo5 g1 L L n m _ 5 (by exact O1.out) LB.out HPM.out (u8one _) rfl _ _ rfl HNE.out ?_;intro w2 ho hg;have K1:=Lib.hid (And.intro ho hg);clear ho hg;obtain ⟨d0,d1,d2,d3⟩:=RC.out w2 (grown_other K1.out.2 (by exact OB.out) NE.out.1)))
 all_goals
  clear c0 c1 c2 hcv hZ
  have O3:=Lib.hid (grown_other K1.out.2 (by exact O2.out) (fun e=>NE.out.2.2 e.symm))
  have OC:=Lib.hid (grown_other K1.out.2 (by exact OB.out) NE.out.1)
  have T2:=Lib.hid ((Tr.refl b g1 g2 w).drew.grown (.inr (.inl rfl)) (.inr trivial) K1.out.2)
  have O1b:=Lib.hid K1.out.1
  clear K1 O1 O2 OB
  go_wp2_with fail
  go_region_law ((refine step_copy_end rfl (.tmp 28) (.tmp 34) 43 43 rfl 4 Tryz.underlying43 tinfo4 g2 L L n m _ 4 (by exact O3.out) LH.out HPM.out (blone _) rfl _ _ rfl HNE2.out ?_;intro w3 ho hg;have K2:=Lib.hid (And.intro ho hg);clear ho hg;obtain ⟨f0,f1,f2,f3⟩:=RC.out w3 (grown_other K2.out.2 (by exact OC.out) NE.out.2.1)))
  all_goals
   clear d0 d1 d2 d3
   have T3:=Lib.hid (T2.out.drew.grown (.inr (.inr rfl)) (.inr trivial) K2.out.2)
   have O4:=Lib.hid (grown_other K2.out.2 (by exact O1b.out) NE.out.2.2)
   have OD:=Lib.hid (grown_other K2.out.2 (by exact OC.out) NE.out.2.1)
   have O3b:=Lib.hid K2.out.1
   have PL1:=Lib.hid (show m + (L - m) = (List.drop n (R.bs.map (Value.int .u8)) ++ List.drop m (R.bs.map (Value.int .u8))).length from by simp [hL];omega)
   have PL2:=Lib.hid (show m + (L - m) = (List.drop n (R.hs.map Value.bool) ++ List.drop m (R.hs.map Value.bool)).length from by simp [hl];omega)
   clear K2 O1b O3 OC T2
   obtain ⟨Y,hY⟩ : ∃ Z : Option Addr,(if L = m then some (⟨g1,0,none⟩ : Addr) else some ⟨g1,m,none⟩) = Z:=⟨_,rfl⟩
   have HYE : Hid (0 < L - m → Y = some ⟨g1,m,none⟩):=Lib.hid (fun h=>by rw [← hY];exact if_neg (by omega))
   obtain ⟨Y2,hY2⟩ : ∃ Z : Option Addr,(if L = m then some (⟨g2,0,none⟩ : Addr) else some ⟨g2,m,none⟩) = Z:=⟨_,rfl⟩
   have HYE2 : Hid (0 < L - m → Y2 = some ⟨g2,m,none⟩):=Lib.hid (fun h=>by rw [← hY2];exact if_neg (by omega))
   have hwr : IntKind.i64.wrap ((R.at_ : Int) + (n : Int)) = (R.at_ : Int) + (n : Int):=IntWalk.i64_in _ (by omega)
   go_wp2_with (first
    | (refine wpList_clear_end rfl (.tmp 41) 52 rfl 5 _ Tryz.underlying52 tz5 rfl rfl g1 m (L - m) _ 5 (by exact O4.out) PL1.out Y _ rfl HYE.out ?_;intro w4 ho hg;have K3:=Lib.hid (And.intro ho hg);clear ho hg f0 f1 f2 f3;obtain ⟨f0,f1,f2,f3⟩:=RC.out w4 (grown_other K3.out.2 (by exact OD.out) NE.out.1);have O5:=Lib.hid (grown_other K3.out.2 (by exact O3b.out) (fun e=>NE.out.2.2 e.symm)))
    | (refine wpList_clear_end rfl (.tmp 47) 43 rfl 4 _ Tryz.underlying43 tz4 rfl rfl g2 m (L - m) _ 4 (by exact O5.out) PL2.out Y2 _ rfl HYE2.out ?_;intro w5 ho hg;have K4:=Lib.hid (And.intro ho hg);clear ho hg f0 f1 f2 f3;obtain ⟨f0,f1,f2,f3⟩:=RC.out w5 (grown_other K4.out.2 (grown_other K3.out.2 (by exact OD.out) NE.out.1) NE.out.2.1)))
   go_ret
   have hO1:=grown_other K4.out.2 (by exact K3.out.1) NE.out.2.2
   have hO2:=K4.out.1
   have hOB:=grown_other K4.out.2 (grown_other K3.out.2 (by exact OD.out) NE.out.1) NE.out.2.1
   have hT:=((T3.out.grown (.inr (.inl rfl)) (.inr trivial) K3.out.2).grown (.inr (.inr rfl)) (.inr trivial) K4.out.2)
   have hE:=take_end n m L hT hO1 hO2 hOB hL hl HPM.out hsm NE.out
   exact ⟨rfl,hE⟩
end
section
open Go.RowKit Go.Lib
def slotHH (s n x y i : Nat) : Option Nat:=if i < n then some (s + i) else if i = n then some x else if i = n + 1 then some y else none
theorem slotHH_is {s n x y i d : Nat} (h : slotHH s n x y i = some d) : (i < n ∧ d = s + i) ∨ (i = n ∧ d = x) ∨ (i = n + 1 ∧ d = y):=by
 unfold slotHH at h
 split at h
 ·cases h;exact .inl ⟨‹_›,rfl⟩
 ·split at h
  ·cases h;exact .inr (.inl ⟨‹_›,rfl⟩)
  ·split at h
   ·cases h;exact .inr (.inr ⟨‹_›,rfl⟩)
   ·cases h
theorem Read_any (b g1 g2 : Nat) (R : Rb) (n : Nat) (w : World) (h : RbAt w b g1 g2 R) (_hn : n ≤ 1152921504606846976) (ha : R.at_ ≤ 1125899906842624) (m : Nat) (hm : m = min n (readyF R.hs)) :
  Calls Tryz.prog 145 #[.pointer (some ⟨b,0,none⟩),.int .i64 n] w fun e w'=>e = .returned (.tuple #[.string (strOfNums (R.bs.take m)),.bool (R.kn && decide (((R.at_ + m : Nat) : Int) = R.fin))]) ∧ Tr b g1 g2 w w' ∧ RbAt w' b g1 g2 { R with at_:=R.at_ + m,bs:=takeB m R.bs,hs:=takeH m R.hs }:=by
 have hr:=readyF_le R.hs
 have hl:=h.hl
 have hsm:=h.sm
 have H:=Lib.hid h
 have TK:=Lib.hid (fun wx (hx : RbAt wx b g1 g2 R)=>take_any b g1 g2 R m wx hx (by omega) ha)
 have RD:=Lib.hid (fun wx (hx : RbAt wx b g1 g2 R)=>ready_any b g1 g2 R wx hx)
 generalize readyF R.hs = r at *
 have m3 : (if r < n then (r : Int) else (n : Int)) = (m : Int):=by split <;> omega
 have m5 : ((m : Int) < 0) = False:=eq_false (by omega)
 clear hm
 clear h
 generalize strOfNums (R.bs.take m) = S at TK ⊢
 go_enter Tryz.func145,Tryz.ntmps145
 go_wp2_with fail
 go_region_with (first
  | (go_at_call 147;refine (RD.out _ (by exact H.out.below (Below.refl _ w).drew)).mono ?_;rintro e w1 ⟨rfl,rfl⟩)
  | (go_at_call 219;refine (TK.out _ (by exact H.out.below (Below.refl _ w).drew)).mono ?_;rintro e w2 ⟨rfl,T2,H2⟩))
 have H3:=Lib.hid (And.intro T2 H2)
 have q0 : w2.cell? ⟨b,0,none⟩ = some (.int .i64 ((R.at_ + m : Nat) : Int)):=H2.cells.1
 have q4 : w2.cell? ⟨b,4,none⟩ = some (.int .i64 R.fin):=H2.cells.2.2.2.2.1
 have q5 : w2.cell? ⟨b,5,none⟩ = some (.bool R.kn):=H2.cells.2.2.2.2.2
 clear T2 H2 H TK RD m3 m5
 obtain ⟨A,hA⟩ : ∃ A : Int,((R.at_ + m : Nat) : Int) = A:=⟨_,rfl⟩
 have HA:=Lib.hid hA
 rw [hA] at q0
 clear hA
 have hT : Hid (Tr b g1 g2 w w2 ∧ RbAt w2 b g1 g2 { R with at_:=R.at_ + m,bs:=takeB m R.bs,hs:=takeH m R.hs }):=Lib.hid ⟨(Tr.refl b g1 g2 w).drew.trans H3.out.1,H3.out.2⟩
 clear H3
 have OLD:=Lib.hid (fun (w1 : World) (hb : Below w2.heap.size w2 w1) (p : Addr) (v : Value) (h : w2.cell? p = some v)=>(hb.cell (p:=p) (World.block_lt_of_cell? _ _ h)).trans h)
 have hK : ∀ n',Hid (Tr b g1 g2 w (w2.drewN n') ∧ RbAt (w2.drewN n') b g1 g2 { R with at_:=R.at_ + m,bs:=takeB m R.bs,hs:=takeH m R.hs }):=fun n'=>Lib.hid ⟨hT.out.1.below (belowN bz0 n'),hT.out.2.below (belowN bz0 n')⟩
 obtain ⟨bl,hbl⟩ : ∃ bl : Bool,(R.kn && decide (((R.at_ + m : Nat) : Int) = R.fin)) = bl:=⟨_,rfl⟩
 have HBL:=Lib.hid hbl
 rw [HA.out] at hbl
 cases hkn : R.kn
 ·rw [hkn] at q5 hbl
  simp only [Bool.false_and] at hbl
  subst hbl
  have HKN:=Lib.hid hkn
  clear hkn
  go_wp2_with fail
  refine grow_region 19 (slotHH 20 17 4 5) (fun jj=>(#[.string S,.pointer (some ⟨b,0,none⟩),.pointer (some ⟨b,0,none⟩),.pointer (some ⟨b,5,none⟩),.bool false,.bool false,undef,undef,undef,undef,undef,undef,undef,undef,undef,undef,.bool false,.string S,.bool false] : Array Value)[jj]?.getD undef) (tm:=#[.pointer (some ⟨b,0,none⟩),.int .i64 n,undef,undef,.string S,.bool false,.string S,.pointer (some ⟨b,0,none⟩),.bool false,.pointer (some ⟨b,0,none⟩),.pointer (some ⟨b,0,none⟩),.pointer (some ⟨b,0,none⟩),.int .i64 n,.pointer (some ⟨b,0,none⟩),.pointer (some ⟨b,0,none⟩),.pointer (some ⟨b,0,none⟩),.int .i64 r,.int .i64 m,.int .i64 m,.string S,.string S,.pointer (some ⟨b,0,none⟩),.pointer (some ⟨b,0,none⟩),.pointer (some ⟨b,5,none⟩),.bool false,.bool false,undef,undef,undef,undef,undef,undef,undef,undef,undef,undef,.bool false]) rfl (by kernel_rfl) rfl (fun i d _ h=>by have:=slotHH_is h;show d < 37;omega) (fun i j d _ _ h1 h2=>by have:=slotHH_is h1;have:=slotHH_is h2;omega) ?_ (by kernel_rfl) ?_
  ·rintro j o hj ho a w1 hb ⟨hold,hdep⟩
   have r0:=OLD.out _ hb _ _ q0
   have r4:=OLD.out _ hb _ _ q4
   have r5:=OLD.out _ hb _ _ q5
   have o0:=hold 0 (fun i hi h=>by have:=slotHH_is h;omega)
   have o6:=hold 6 (fun i hi h=>by have:=slotHH_is h;omega)
   simp at o0 o6
   have hjj : j = 0 ∨ j = 1 ∨ j = 2 ∨ j = 3 ∨ j = 4 ∨ j = 5 ∨ j = 6 ∨ j = 7 ∨ j = 8 ∨ j = 9 ∨ j = 10 ∨ j = 11 ∨ j = 12 ∨ j = 13 ∨ j = 14 ∨ j = 15 ∨ j = 16 ∨ j = 17 ∨ j = 18:=by omega
   rcases hjj with rfl | rfl | rfl | rfl | rfl | rfl | rfl | rfl | rfl | rfl | rfl | rfl | rfl | rfl | rfl | rfl | rfl | rfl | rfl
   all_goals (cases ho;simp [Region.binds,slotHH] at hdep;refine ⟨rfl,rfl,?_⟩)
   iterate 6 (· first | (refine .inl ⟨(by first | rfl | (simp [Region.wanted,yielded,hdep];done)),fun K hK=>?_⟩;unfold Oper.wp;simp [execOp,Oper.upon,go_sem,Act.eval,o6];exact hK _ bz0) | (refine .inl ⟨rfl,fun K hK=>?_⟩;unfold Oper.wp;simp [execOp,Oper.upon,go_sem,Act.eval,o0,o6,r0,r4,r5];exact hK _ bz0) | (refine .inl ⟨(by first | rfl | (simp [Region.wanted,yielded,hdep];done)),fun K hK=>?_⟩;unfold Oper.wp;simp [execOp,Oper.upon,go_sem,Act.eval,o0];exact hK _ bz0) | (refine .inl ⟨(by first | rfl | (simp [Region.wanted,yielded,hdep];done)),fun K hK=>?_⟩;unfold Oper.wp;simp [execOp,Oper.upon,go_sem,Act.eval,hdep];exact hK _ bz0) | (refine .inl ⟨(by first | rfl | (simp [Region.wanted,yielded,hdep];done)),fun K hK=>?_⟩;unfold Oper.wp;simp [execOp,Oper.upon,go_sem,Act.eval,hdep,r5];exact hK _ bz0))
   iterate 10 (· exact .inr ⟨(by simp [Region.wanted,yielded,hdep];done),rfl⟩)
   iterate 3 (· first | (refine .inl ⟨(by first | rfl | (simp [Region.wanted,yielded,hdep];done)),fun K hK=>?_⟩;unfold Oper.wp;simp [execOp,Oper.upon,go_sem,Act.eval,hdep];exact hK _ bz0) | (refine .inl ⟨rfl,fun K hK=>?_⟩;unfold Oper.wp;simp [execOp,Oper.upon,go_sem,Act.eval,o0,o6,r0,r4,r5];exact hK _ bz0))
  rintro w3 hb3
  have hX:=(And.intro (hT.out.1.below hb3) (hT.out.2.below hb3) : Tr b g1 g2 w w3 ∧ RbAt w3 b g1 g2 { R with at_:=R.at_ + m,bs:=takeB m R.bs,hs:=takeH m R.hs })
  go_wp2
  go_returns
  exact ⟨by rw [HBL.out];rfl,hX⟩
 ·rw [hkn] at q5 hbl
  simp only [Bool.true_and] at hbl
  have HKN:=Lib.hid hkn
  clear hkn
  by_cases hAf : A = R.fin
  ·have d0 : (A == R.fin) = true:=beq_iff_eq.2 hAf
   rw [decide_eq_true hAf] at hbl
   subst hbl
   clear hAf
   go_wp2_with fail
   refine grow_region 19 (slotHH 20 17 4 5) (fun jj=>(#[.string S,.pointer (some ⟨b,0,none⟩),.pointer (some ⟨b,0,none⟩),.pointer (some ⟨b,5,none⟩),.bool true,.bool true,.pointer (some ⟨b,0,none⟩),.pointer (some ⟨b,0,none⟩),.pointer (some ⟨b,0,none⟩),.pointer (some ⟨b,0,none⟩),.int .i64 A,.pointer (some ⟨b,0,none⟩),.pointer (some ⟨b,0,none⟩),.pointer (some ⟨b,4,none⟩),.int .i64 R.fin,.bool true,.bool true,.string S,.bool true] : Array Value)[jj]?.getD undef) (tm:=#[.pointer (some ⟨b,0,none⟩),.int .i64 n,undef,undef,.string S,.bool true,.string S,.pointer (some ⟨b,0,none⟩),.bool false,.pointer (some ⟨b,0,none⟩),.pointer (some ⟨b,0,none⟩),.pointer (some ⟨b,0,none⟩),.int .i64 n,.pointer (some ⟨b,0,none⟩),.pointer (some ⟨b,0,none⟩),.pointer (some ⟨b,0,none⟩),.int .i64 r,.int .i64 m,.int .i64 m,.string S,.string S,.pointer (some ⟨b,0,none⟩),.pointer (some ⟨b,0,none⟩),.pointer (some ⟨b,5,none⟩),.bool true,.bool true,.pointer (some ⟨b,0,none⟩),.pointer (some ⟨b,0,none⟩),.pointer (some ⟨b,0,none⟩),.pointer (some ⟨b,0,none⟩),.int .i64 A,.pointer (some ⟨b,0,none⟩),.pointer (some ⟨b,0,none⟩),.pointer (some ⟨b,4,none⟩),.int .i64 R.fin,.bool true,.bool true]) rfl (by kernel_rfl) rfl (fun i d _ h=>by have:=slotHH_is h;show d < 37;omega) (fun i j d _ _ h1 h2=>by have:=slotHH_is h1;have:=slotHH_is h2;omega) ?_ (by kernel_rfl) ?_
   ·rintro j o hj ho a w1 hb ⟨hold,hdep⟩
    have r0:=OLD.out _ hb _ _ q0
    have r4:=OLD.out _ hb _ _ q4
    have r5:=OLD.out _ hb _ _ q5
    have o0:=hold 0 (fun i hi h=>by have:=slotHH_is h;omega)
    have o6:=hold 6 (fun i hi h=>by have:=slotHH_is h;omega)
    simp at o0 o6
    have hjj : j = 0 ∨ j = 1 ∨ j = 2 ∨ j = 3 ∨ j = 4 ∨ j = 5 ∨ j = 6 ∨ j = 7 ∨ j = 8 ∨ j = 9 ∨ j = 10 ∨ j = 11 ∨ j = 12 ∨ j = 13 ∨ j = 14 ∨ j = 15 ∨ j = 16 ∨ j = 17 ∨ j = 18:=by omega
    rcases hjj with rfl | rfl | rfl | rfl | rfl | rfl | rfl | rfl | rfl | rfl | rfl | rfl | rfl | rfl | rfl | rfl | rfl | rfl | rfl
    all_goals (cases ho;simp [Region.binds,slotHH] at hdep;refine ⟨rfl,rfl,?_⟩)
    iterate 19 (· first | (refine .inl ⟨(by first | rfl | (simp [Region.wanted,yielded,hdep];done)),fun K hK=>?_⟩;unfold Oper.wp;simp [execOp,Oper.upon,go_sem,Act.eval,o6];exact hK _ bz0) | (refine .inl ⟨rfl,fun K hK=>?_⟩;unfold Oper.wp;simp [execOp,Oper.upon,go_sem,Act.eval,o0,o6,r0,r4,r5,d0];exact hK _ bz0) | (refine .inl ⟨(by first | rfl | (simp [Region.wanted,yielded,hdep];done)),fun K hK=>?_⟩;unfold Oper.wp;simp [execOp,Oper.upon,go_sem,Act.eval,o0];exact hK _ bz0) | (refine .inl ⟨(by first | rfl | (simp [Region.wanted,yielded,hdep];done)),fun K hK=>?_⟩;unfold Oper.wp;simp [execOp,Oper.upon,go_sem,Act.eval,hdep];exact hK _ bz0) | (refine .inl ⟨(by first | rfl | (simp [Region.wanted,yielded,hdep];done)),fun K hK=>?_⟩;unfold Oper.wp;simp [execOp,Oper.upon,go_sem,Act.eval,hdep,r5];exact hK _ bz0) | (refine .inl ⟨(by first | rfl | (simp [Region.wanted,yielded,hdep];done)),fun K hK=>?_⟩;unfold Oper.wp;simp [execOp,Oper.upon,go_sem,Act.eval,hdep,r0];exact hK _ bz0) | (refine .inl ⟨(by first | rfl | (simp [Region.wanted,yielded,hdep];done)),fun K hK=>?_⟩;unfold Oper.wp;simp [execOp,Oper.upon,go_sem,Act.eval,hdep,r4];exact hK _ bz0) | (refine .inl ⟨(by first | rfl | (simp [Region.wanted,yielded,hdep];done)),fun K hK=>?_⟩;unfold Oper.wp;simp [execOp,Oper.upon,go_sem,Act.eval,hdep,d0];exact hK _ bz0))
   rintro w3 hb3
   have hX:=(And.intro (hT.out.1.below hb3) (hT.out.2.below hb3) : Tr b g1 g2 w w3 ∧ RbAt w3 b g1 g2 { R with at_:=R.at_ + m,bs:=takeB m R.bs,hs:=takeH m R.hs })
   go_wp2
   go_returns
   exact ⟨by rw [HBL.out];rfl,hX⟩
  ·have d0 : (A == R.fin) = false:=beq_eq_false_iff_ne.2 hAf
   rw [decide_eq_false hAf] at hbl
   subst hbl
   clear hAf
   go_wp2_with fail
   refine grow_region 19 (slotHH 20 17 4 5) (fun jj=>(#[.string S,.pointer (some ⟨b,0,none⟩),.pointer (some ⟨b,0,none⟩),.pointer (some ⟨b,5,none⟩),.bool true,.bool true,.pointer (some ⟨b,0,none⟩),.pointer (some ⟨b,0,none⟩),.pointer (some ⟨b,0,none⟩),.pointer (some ⟨b,0,none⟩),.int .i64 A,.pointer (some ⟨b,0,none⟩),.pointer (some ⟨b,0,none⟩),.pointer (some ⟨b,4,none⟩),.int .i64 R.fin,.bool false,.bool false,.string S,.bool false] : Array Value)[jj]?.getD undef) (tm:=#[.pointer (some ⟨b,0,none⟩),.int .i64 n,undef,undef,.string S,.bool false,.string S,.pointer (some ⟨b,0,none⟩),.bool false,.pointer (some ⟨b,0,none⟩),.pointer (some ⟨b,0,none⟩),.pointer (some ⟨b,0,none⟩),.int .i64 n,.pointer (some ⟨b,0,none⟩),.pointer (some ⟨b,0,none⟩),.pointer (some ⟨b,0,none⟩),.int .i64 r,.int .i64 m,.int .i64 m,.string S,.string S,.pointer (some ⟨b,0,none⟩),.pointer (some ⟨b,0,none⟩),.pointer (some ⟨b,5,none⟩),.bool true,.bool true,.pointer (some ⟨b,0,none⟩),.pointer (some ⟨b,0,none⟩),.pointer (some ⟨b,0,none⟩),.pointer (some ⟨b,0,none⟩),.int .i64 A,.pointer (some ⟨b,0,none⟩),.pointer (some ⟨b,0,none⟩),.pointer (some ⟨b,4,none⟩),.int .i64 R.fin,.bool false,.bool false]) rfl (by kernel_rfl) rfl (fun i d _ h=>by have:=slotHH_is h;show d < 37;omega) (fun i j d _ _ h1 h2=>by have:=slotHH_is h1;have:=slotHH_is h2;omega) ?_ (by kernel_rfl) ?_
   ·rintro j o hj ho a w1 hb ⟨hold,hdep⟩
    have r0:=OLD.out _ hb _ _ q0
    have r4:=OLD.out _ hb _ _ q4
    have r5:=OLD.out _ hb _ _ q5
    have o0:=hold 0 (fun i hi h=>by have:=slotHH_is h;omega)
    have o6:=hold 6 (fun i hi h=>by have:=slotHH_is h;omega)
    simp at o0 o6
    have hjj : j = 0 ∨ j = 1 ∨ j = 2 ∨ j = 3 ∨ j = 4 ∨ j = 5 ∨ j = 6 ∨ j = 7 ∨ j = 8 ∨ j = 9 ∨ j = 10 ∨ j = 11 ∨ j = 12 ∨ j = 13 ∨ j = 14 ∨ j = 15 ∨ j = 16 ∨ j = 17 ∨ j = 18:=by omega
    rcases hjj with rfl | rfl | rfl | rfl | rfl | rfl | rfl | rfl | rfl | rfl | rfl | rfl | rfl | rfl | rfl | rfl | rfl | rfl | rfl
    all_goals (cases ho;simp [Region.binds,slotHH] at hdep;refine ⟨rfl,rfl,?_⟩)
    iterate 19 (· first | (refine .inl ⟨(by first | rfl | (simp [Region.wanted,yielded,hdep];done)),fun K hK=>?_⟩;unfold Oper.wp;simp [execOp,Oper.upon,go_sem,Act.eval,o6];exact hK _ bz0) | (refine .inl ⟨rfl,fun K hK=>?_⟩;unfold Oper.wp;simp [execOp,Oper.upon,go_sem,Act.eval,o0,o6,r0,r4,r5,d0];exact hK _ bz0) | (refine .inl ⟨(by first | rfl | (simp [Region.wanted,yielded,hdep];done)),fun K hK=>?_⟩;unfold Oper.wp;simp [execOp,Oper.upon,go_sem,Act.eval,o0];exact hK _ bz0) | (refine .inl ⟨(by first | rfl | (simp [Region.wanted,yielded,hdep];done)),fun K hK=>?_⟩;unfold Oper.wp;simp [execOp,Oper.upon,go_sem,Act.eval,hdep];exact hK _ bz0) | (refine .inl ⟨(by first | rfl | (simp [Region.wanted,yielded,hdep];done)),fun K hK=>?_⟩;unfold Oper.wp;simp [execOp,Oper.upon,go_sem,Act.eval,hdep,r5];exact hK _ bz0) | (refine .inl ⟨(by first | rfl | (simp [Region.wanted,yielded,hdep];done)),fun K hK=>?_⟩;unfold Oper.wp;simp [execOp,Oper.upon,go_sem,Act.eval,hdep,r0];exact hK _ bz0) | (refine .inl ⟨(by first | rfl | (simp [Region.wanted,yielded,hdep];done)),fun K hK=>?_⟩;unfold Oper.wp;simp [execOp,Oper.upon,go_sem,Act.eval,hdep,r4];exact hK _ bz0) | (refine .inl ⟨(by first | rfl | (simp [Region.wanted,yielded,hdep];done)),fun K hK=>?_⟩;unfold Oper.wp;simp [execOp,Oper.upon,go_sem,Act.eval,hdep,d0];exact hK _ bz0))
   rintro w3 hb3
   have hX:=(And.intro (hT.out.1.below hb3) (hT.out.2.below hb3) : Tr b g1 g2 w w3 ∧ RbAt w3 b g1 g2 { R with at_:=R.at_ + m,bs:=takeB m R.bs,hs:=takeH m R.hs })
   go_wp2
   go_returns
   exact ⟨by rw [HBL.out];rfl,hX⟩
end
end Go.Proofs.YthckbmcmdcemkaaGreatDoor.rea
