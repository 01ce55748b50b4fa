/- Texts of this claim, one behind the other: Rpn Rpo. -/
import Derived.Test.YthckbmcmdcemkaaGreatDoorBs16
import Derived.Test.YthckbmcmdcemkaaGreatDoorBs17
set_option maxRecDepth 100000
set_option maxHeartbeats 16000000
set_option linter.unusedSimpArgs false
set_option linter.unusedVariables false
namespace Go.Proofs.YthckbmcmdcemkaaGreatDoor.rea
section
open Go.RowKit
theorem isFinal_no (b g1 g2 : Nat) (R : Rb) (off : Nat) (s : ByteArray) (fin : Bool) (w : World) (h : RbAt w b g1 g2 R) (hoff : off ≤ 1099511627776) (hs : s.size ≤ 8192)
  (h1 : (fin = true ∧ (off : Int) + s.size < R.hi) ∨ ((fin = true → R.hi ≤ (off : Int) + s.size) ∧ R.kn = true ∧ (R.fin < (off : Int) + s.size ∨ ((off : Int) + s.size < R.fin ∧ fin = true)))) :
  Calls Tryz.prog 326 #[.pointer (some ⟨b,0,none⟩),.agg (pcO off s fin)] w fun e w'=>e = .returned (.bool false) ∧ Below w.heap.size w w':=by
 obtain ⟨c0,c1,c2,c3,c4,c5⟩:=h.cells
 have X:=Lib.hid (box1 w (.cells (pcO off s fin) 309))
 have EN:=Lib.hid (fun wx=>end_any off s fin wx (by omega))
 unfold pcO at *
 obtain ⟨V,hV⟩ : ∃ V,V = w.alloc (.cells #[.int .i64 off,.string s,.bool fin] 309):=⟨_,rfl⟩
 have b3 : V.cell? ⟨b,3,none⟩ = some (.int .i64 R.hi):=by rw [hV];exact cell_al _ c3
 have b4 : V.cell? ⟨b,4,none⟩ = some (.int .i64 R.fin):=by rw [hV];exact cell_al _ c4
 have b5 : V.cell? ⟨b,5,none⟩ = some (.bool R.kn):=by rw [hV];exact cell_al _ c5
 have p0 : V.cell? ⟨w.heap.size,0,none⟩ = some (.int .i64 off):=by rw [hV];exact at_whole X.out.1 0 rfl
 have p1 : V.cell? ⟨w.heap.size,1,none⟩ = some (.string s):=by rw [hV];exact at_whole X.out.1 1 rfl
 have p2 : V.cell? ⟨w.heap.size,2,none⟩ = some (.bool fin):=by rw [hV];exact at_whole X.out.1 2 rfl
 have BV:=Lib.hid (show Below w.heap.size w V from by rw [hV];exact X.out.2.1)
 have hVw : w.alloc (.cells #[.int .i64 off,.string s,.bool fin] 309) = V:=hV.symm
 have OLD : Hid (∀ (wx w' : World),Below wx.heap.size wx w' → ∀ p v,wx.cell? p = some v → w'.cell? p = some v):=Lib.hid (fun wx w' hb p v hv=>(hb.cell (World.block_lt_of_cell? _ _ hv)).trans hv)
 obtain ⟨e,he⟩ : ∃ e,(off : Int) + s.size = e:=⟨_,rfl⟩
 rw [he] at EN h1
 clear c0 c1 c2 c3 c4 c5 hV X h he
 generalize R.hi = hi at *
 generalize R.fin = f0 at *
 generalize R.kn = kn at *
 have EB:=Lib.hid (fun wx=>(EN.out wx).mono (fun e w' h=>(⟨h.1,by rw [h.2];exact (Below.refl _ wx).alloc (Nat.le_refl _) _⟩ : e = _ ∧ Below wx.heap.size wx w')))
 clear EN
 cases fin
 ·obtain ⟨h,_⟩ | ⟨_,hk,h2 | ⟨_,h⟩⟩:=h1
  ·cases h
  ·subst hk
   have h2a : (e == f0) = false:=beq_eq_false_iff_ne.2 (by omega)
   have h2b : (e < f0) = False:=eq_false (by omega)
   clear h2
   go_enter Tryz.func326,Tryz.ntmps326
   go_wp2_with fail
   refine grow_region 11 (slotG 5 11 0) (fun jj=>(#[.pointer (some ⟨w.heap.size,2,none⟩),.bool false,.bool false,undef,undef,undef,undef,undef,undef,undef,.bool false] : Array Value)[jj]?.getD undef) (tm:=#[.pointer (some ⟨b,0,none⟩),.agg #[.int .i64 off,.string s,.bool false],undef,.pointer (some ⟨w.heap.size,0,none⟩),.bool false,.pointer (some ⟨w.heap.size,2,none⟩),.bool false,.bool false,undef,undef,undef,undef,undef,undef,undef,.bool false,undef,undef,undef,undef,undef,undef,undef,undef,undef,undef,undef,undef,undef,undef,undef,undef,undef,undef,undef,undef,undef,undef,undef,undef,undef,undef,undef,undef]) rfl (by kernel_rfl) rfl (fun i d _ h=>by have:=slotG_is h;simp;omega) (fun i j d _ _ h1 h2=>by have:=slotG_is h1;have:=slotG_is h2;omega) ?_ (by kernel_rfl) ?_
   ·rintro j o hj ho a w1 hb ⟨hold,hdep⟩
    have r3:=OLD.out _ _ hb _ _ b3
    have r4:=OLD.out _ _ hb _ _ b4
    have r5:=OLD.out _ _ hb _ _ b5
    have s0:=OLD.out _ _ hb _ _ p0
    have s1:=OLD.out _ _ hb _ _ p1
    have s2:=OLD.out _ _ hb _ _ p2
    have o0:=hold 0 (fun i hi h=>by have:=slotG_is h;omega)
    have o3:=hold 3 (fun i hi h=>by have:=slotG_is h;omega)
    simp at o0 o3
    have hjj : j = 0 ∨ j = 1 ∨ j = 2 ∨ j = 3 ∨ j = 4 ∨ j = 5 ∨ j = 6 ∨ j = 7 ∨ j = 8 ∨ j = 9 ∨ j = 10:=by omega
    rcases hjj with rfl | rfl | rfl | rfl | rfl | rfl | rfl | rfl | rfl | rfl | rfl
    all_goals (cases ho;simp [Region.binds,slotG] at hdep;refine ⟨rfl,rfl,?_⟩)
    iterate 3 (· first | (refine .inl ⟨(by first | rfl | (simp [Region.wanted,yielded,hdep];done)),fun K hK=>?_⟩;unfold Oper.wp;simp [execOp,Oper.upon,go_sem,Act.eval,hdep,o0,o3,r3,r4,r5,s0,s1,s2];exact hK _ bz0) | (refine .inl ⟨rfl,fun K hK=>?_⟩;unfold Oper.wp;simp [execOp,Oper.upon,go_sem,Act.eval,o0,o3,r3,r4,r5,s0,s1,s2];exact hK _ bz0))
    iterate 7 (· exact .inr ⟨(by simp [Region.wanted,yielded,hdep,undef];done),rfl⟩)
    ·first | (refine .inl ⟨(by first | rfl | (simp [Region.wanted,yielded,hdep];done)),fun K hK=>?_⟩;unfold Oper.wp;simp [execOp,Oper.upon,go_sem,Act.eval,hdep,o0,o3,r3,r4,r5,s0,s1,s2];exact hK _ bz0) | (refine .inl ⟨rfl,fun K hK=>?_⟩;unfold Oper.wp;simp [execOp,Oper.upon,go_sem,Act.eval,o0,o3,r3,r4,r5,s0,s1,s2];exact hK _ bz0)
   rintro V2 hV2
   have BV2:=Lib.hid hV2
   have b3:=OLD.out _ _ hV2 _ _ b3
   have b4:=OLD.out _ _ hV2 _ _ b4
   have b5:=OLD.out _ _ hV2 _ _ b5
   have p0:=OLD.out _ _ hV2 _ _ p0
   have p1:=OLD.out _ _ hV2 _ _ p1
   have p2:=OLD.out _ _ hV2 _ _ p2
   clear hV2
   go_wp2_with fail
   refine grow_region 29 (slotG 16 28 4) (fun jj=>(#[.pointer (some ⟨b,0,none⟩),.pointer (some ⟨b,0,none⟩),.pointer (some ⟨b,5,none⟩),.bool true,.bool false,.bool false,.agg #[.int .i64 off,.string s,.bool false],.int .i64 e,.pointer (some ⟨b,0,none⟩),.pointer (some ⟨b,0,none⟩),.pointer (some ⟨b,4,none⟩),.int .i64 f0,.bool false,.bool false,.bool false,.agg #[.int .i64 off,.string s,.bool false],.int .i64 e,.pointer (some ⟨b,0,none⟩),.pointer (some ⟨b,0,none⟩),.pointer (some ⟨b,4,none⟩),.int .i64 f0,.bool false,.bool false,undef,undef,undef,.bool false,.bool false,.bool false] : Array Value)[jj]?.getD undef) (tm:=#[.pointer (some ⟨b,0,none⟩),.agg #[.int .i64 off,.string s,.bool false],undef,.pointer (some ⟨w.heap.size,0,none⟩),.bool false,.pointer (some ⟨w.heap.size,2,none⟩),.bool false,.bool false,undef,undef,undef,undef,undef,undef,undef,.bool false,.pointer (some ⟨b,0,none⟩),.pointer (some ⟨b,0,none⟩),.pointer (some ⟨b,5,none⟩),.bool true,.bool false,.bool false,.agg #[.int .i64 off,.string s,.bool false],.int .i64 e,.pointer (some ⟨b,0,none⟩),.pointer (some ⟨b,0,none⟩),.pointer (some ⟨b,4,none⟩),.int .i64 f0,.bool false,.bool false,.bool false,.agg #[.int .i64 off,.string s,.bool false],.int .i64 e,.pointer (some ⟨b,0,none⟩),.pointer (some ⟨b,0,none⟩),.pointer (some ⟨b,4,none⟩),.int .i64 f0,.bool false,.bool false,undef,undef,undef,.bool false,.bool false]) rfl (by kernel_rfl) rfl (fun i d _ h=>by have:=slotG_is h;simp;omega) (fun i j d _ _ h1 h2=>by have:=slotG_is h1;have:=slotG_is h2;omega) ?_ (by kernel_rfl) ?_
   ·rintro j o hj ho a w1 hb ⟨hold,hdep⟩
    have r3:=OLD.out _ _ hb _ _ b3
    have r4:=OLD.out _ _ hb _ _ b4
    have r5:=OLD.out _ _ hb _ _ b5
    have s0:=OLD.out _ _ hb _ _ p0
    have s1:=OLD.out _ _ hb _ _ p1
    have s2:=OLD.out _ _ hb _ _ p2
    have o0:=hold 0 (fun i hi h=>by have:=slotG_is h;omega)
    have o3:=hold 3 (fun i hi h=>by have:=slotG_is h;omega)
    simp at o0 o3
    have hjj : j = 0 ∨ j = 1 ∨ j = 2 ∨ j = 3 ∨ j = 4 ∨ j = 5 ∨ j = 6 ∨ j = 7 ∨ j = 8 ∨ j = 9 ∨ j = 10 ∨ j = 11 ∨ j = 12 ∨ j = 13 ∨ j = 14 ∨ j = 15 ∨ j = 16 ∨ j = 17 ∨ j = 18 ∨ j = 19 ∨ j = 20 ∨ j = 21 ∨ j = 22 ∨ j = 23 ∨ j = 24 ∨ j = 25 ∨ j = 26 ∨ j = 27 ∨ j = 28:=by omega
    rcases hjj with rfl | rfl | rfl | rfl | rfl | rfl | rfl | rfl | rfl | rfl | rfl | rfl | rfl | rfl | rfl | rfl | rfl | rfl | rfl | rfl | rfl | rfl | rfl | rfl | rfl | rfl | rfl | rfl | rfl
    all_goals (cases ho;simp [Region.binds,slotG] at hdep;refine ⟨rfl,rfl,?_⟩)
    iterate 7 (· first | (refine .inl ⟨(by first | rfl | (simp [Region.wanted,yielded,hdep];done)),fun K hK=>?_⟩;unfold Oper.wp;simp [execOp,Oper.upon,go_sem,Act.eval,hdep,o0,o3,r3,r4,r5,s0,s1,s2,h2a,h2b];exact hK _ bz0) | (refine .inl ⟨rfl,fun K hK=>?_⟩;unfold Oper.wp;simp [execOp,Oper.upon,go_sem,Act.eval,o0,o3,r3,r4,r5,s0,s1,s2,h2a,h2b];exact hK _ bz0))
    ·(refine .inl ⟨(by first | rfl | (simp [Region.wanted,yielded,hdep];done)),fun K hK=>?_⟩;unfold Oper.wp;simp [execOp,Oper.upon,resolve,invoke,go_sem,Act.eval,hdep,o0,o3,r3,r4,r5,s0,s1,s2,h2a,h2b];(refine (EB.out _).mono ?_;rintro e' w' ⟨rfl,hb'⟩;exact hK _ hb'))
    iterate 8 (· first | (refine .inl ⟨(by first | rfl | (simp [Region.wanted,yielded,hdep];done)),fun K hK=>?_⟩;unfold Oper.wp;simp [execOp,Oper.upon,go_sem,Act.eval,hdep,o0,o3,r3,r4,r5,s0,s1,s2,h2a,h2b];exact hK _ bz0) | (refine .inl ⟨rfl,fun K hK=>?_⟩;unfold Oper.wp;simp [execOp,Oper.upon,go_sem,Act.eval,o0,o3,r3,r4,r5,s0,s1,s2,h2a,h2b];exact hK _ bz0))
    ·(refine .inl ⟨(by first | rfl | (simp [Region.wanted,yielded,hdep];done)),fun K hK=>?_⟩;unfold Oper.wp;simp [execOp,Oper.upon,resolve,invoke,go_sem,Act.eval,hdep,o0,o3,r3,r4,r5,s0,s1,s2,h2a,h2b];(refine (EB.out _).mono ?_;rintro e' w' ⟨rfl,hb'⟩;exact hK _ hb'))
    iterate 6 (· first | (refine .inl ⟨(by first | rfl | (simp [Region.wanted,yielded,hdep];done)),fun K hK=>?_⟩;unfold Oper.wp;simp [execOp,Oper.upon,go_sem,Act.eval,hdep,o0,o3,r3,r4,r5,s0,s1,s2,h2a,h2b];exact hK _ bz0) | (refine .inl ⟨rfl,fun K hK=>?_⟩;unfold Oper.wp;simp [execOp,Oper.upon,go_sem,Act.eval,o0,o3,r3,r4,r5,s0,s1,s2,h2a,h2b];exact hK _ bz0))
    iterate 3 (· exact .inr ⟨(by simp [Region.wanted,yielded,hdep,undef];done),rfl⟩)
    iterate 3 (· first | (refine .inl ⟨(by first | rfl | (simp [Region.wanted,yielded,hdep];done)),fun K hK=>?_⟩;unfold Oper.wp;simp [execOp,Oper.upon,go_sem,Act.eval,hdep,o0,o3,r3,r4,r5,s0,s1,s2,h2a,h2b];exact hK _ bz0) | (refine .inl ⟨rfl,fun K hK=>?_⟩;unfold Oper.wp;simp [execOp,Oper.upon,go_sem,Act.eval,o0,o3,r3,r4,r5,s0,s1,s2,h2a,h2b];exact hK _ bz0))
   rintro V3 hV3
   have BV3:=Lib.hid hV3
   clear hV3
   go_wp2
   go_ret
   exact ⟨rfl,btr (btr BV.out BV2.out rfl) BV3.out rfl⟩
  ·cases h
 ·obtain ⟨_,h⟩ | ⟨h3,hk,h2 | ⟨h2,_⟩⟩:=h1
  ·have h1b : e < hi:=h
   clear h
   go_enter Tryz.func326,Tryz.ntmps326
   go_wp2_with fail
   refine grow_region 11 (slotG 5 11 0) (fun jj=>(#[.pointer (some ⟨w.heap.size,2,none⟩),.bool true,.bool true,.agg #[.int .i64 off,.string s,.bool true],.int .i64 e,.pointer (some ⟨b,0,none⟩),.pointer (some ⟨b,0,none⟩),.pointer (some ⟨b,3,none⟩),.int .i64 hi,.bool true,.bool true] : Array Value)[jj]?.getD undef) (tm:=#[.pointer (some ⟨b,0,none⟩),.agg #[.int .i64 off,.string s,.bool true],undef,.pointer (some ⟨w.heap.size,0,none⟩),.bool false,.pointer (some ⟨w.heap.size,2,none⟩),.bool true,.bool true,.agg #[.int .i64 off,.string s,.bool true],.int .i64 e,.pointer (some ⟨b,0,none⟩),.pointer (some ⟨b,0,none⟩),.pointer (some ⟨b,3,none⟩),.int .i64 hi,.bool true,.bool true,undef,undef,undef,undef,undef,undef,undef,undef,undef,undef,undef,undef,undef,undef,undef,undef,undef,undef,undef,undef,undef,undef,undef,undef,undef,undef,undef,undef]) rfl (by kernel_rfl) rfl (fun i d _ h=>by have:=slotG_is h;simp;omega) (fun i j d _ _ h1 h2=>by have:=slotG_is h1;have:=slotG_is h2;omega) ?_ (by kernel_rfl) ?_
   ·rintro j o hj ho a w1 hb ⟨hold,hdep⟩
    have r3:=OLD.out _ _ hb _ _ b3
    have r4:=OLD.out _ _ hb _ _ b4
    have r5:=OLD.out _ _ hb _ _ b5
    have s0:=OLD.out _ _ hb _ _ p0
    have s1:=OLD.out _ _ hb _ _ p1
    have s2:=OLD.out _ _ hb _ _ p2
    have o0:=hold 0 (fun i hi h=>by have:=slotG_is h;omega)
    have o3:=hold 3 (fun i hi h=>by have:=slotG_is h;omega)
    simp at o0 o3
    have hjj : j = 0 ∨ j = 1 ∨ j = 2 ∨ j = 3 ∨ j = 4 ∨ j = 5 ∨ j = 6 ∨ j = 7 ∨ j = 8 ∨ j = 9 ∨ j = 10:=by omega
    rcases hjj with rfl | rfl | rfl | rfl | rfl | rfl | rfl | rfl | rfl | rfl | rfl
    all_goals (cases ho;simp [Region.binds,slotG] at hdep;refine ⟨rfl,rfl,?_⟩)
    iterate 4 (· first | (refine .inl ⟨(by first | rfl | (simp [Region.wanted,yielded,hdep];done)),fun K hK=>?_⟩;unfold Oper.wp;simp [execOp,Oper.upon,go_sem,Act.eval,hdep,o0,o3,r3,r4,r5,s0,s1,s2,h1b];exact hK _ bz0) | (refine .inl ⟨rfl,fun K hK=>?_⟩;unfold Oper.wp;simp [execOp,Oper.upon,go_sem,Act.eval,o0,o3,r3,r4,r5,s0,s1,s2,h1b];exact hK _ bz0))
    ·(refine .inl ⟨(by first | rfl | (simp [Region.wanted,yielded,hdep];done)),fun K hK=>?_⟩;unfold Oper.wp;simp [execOp,Oper.upon,resolve,invoke,go_sem,Act.eval,hdep,o0,o3,r3,r4,r5,s0,s1,s2,h1b];(refine (EB.out _).mono ?_;rintro e' w' ⟨rfl,hb'⟩;exact hK _ hb'))
    iterate 6 (· first | (refine .inl ⟨(by first | rfl | (simp [Region.wanted,yielded,hdep];done)),fun K hK=>?_⟩;unfold Oper.wp;simp [execOp,Oper.upon,go_sem,Act.eval,hdep,o0,o3,r3,r4,r5,s0,s1,s2,h1b];exact hK _ bz0) | (refine .inl ⟨rfl,fun K hK=>?_⟩;unfold Oper.wp;simp [execOp,Oper.upon,go_sem,Act.eval,o0,o3,r3,r4,r5,s0,s1,s2,h1b];exact hK _ bz0))
   rintro V2 hV2
   have BV2:=Lib.hid hV2
   clear hV2
   go_wp2
   go_ret
   exact ⟨rfl,btr BV.out BV2.out rfl⟩
  ·subst hk
   have h1b : (e < hi) = False:=eq_false (by have:=h3 rfl;omega)
   have h2a : (e == f0) = false:=beq_eq_false_iff_ne.2 (by omega)
   have h2b : (e < f0) = False:=eq_false (by omega)
   clear h2 h3
   go_enter Tryz.func326,Tryz.ntmps326
   go_wp2_with fail
   refine grow_region 11 (slotG 5 11 0) (fun jj=>(#[.pointer (some ⟨w.heap.size,2,none⟩),.bool true,.bool true,.agg #[.int .i64 off,.string s,.bool true],.int .i64 e,.pointer (some ⟨b,0,none⟩),.pointer (some ⟨b,0,none⟩),.pointer (some ⟨b,3,none⟩),.int .i64 hi,.bool false,.bool false] : Array Value)[jj]?.getD undef) (tm:=#[.pointer (some ⟨b,0,none⟩),.agg #[.int .i64 off,.string s,.bool true],undef,.pointer (some ⟨w.heap.size,0,none⟩),.bool false,.pointer (some ⟨w.heap.size,2,none⟩),.bool true,.bool true,.agg #[.int .i64 off,.string s,.bool true],.int .i64 e,.pointer (some ⟨b,0,none⟩),.pointer (some ⟨b,0,none⟩),.pointer (some ⟨b,3,none⟩),.int .i64 hi,.bool false,.bool false,undef,undef,undef,undef,undef,undef,undef,undef,undef,undef,undef,undef,undef,undef,undef,undef,undef,undef,undef,undef,undef,undef,undef,undef,undef,undef,undef,undef]) rfl (by kernel_rfl) rfl (fun i d _ h=>by have:=slotG_is h;simp;omega) (fun i j d _ _ h1 h2=>by have:=slotG_is h1;have:=slotG_is h2;omega) ?_ (by kernel_rfl) ?_
   ·rintro j o hj ho a w1 hb ⟨hold,hdep⟩
    have r3:=OLD.out _ _ hb _ _ b3
    have r4:=OLD.out _ _ hb _ _ b4
    have r5:=OLD.out _ _ hb _ _ b5
    have s0:=OLD.out _ _ hb _ _ p0
    have s1:=OLD.out _ _ hb _ _ p1
    have s2:=OLD.out _ _ hb _ _ p2
    have o0:=hold 0 (fun i hi h=>by have:=slotG_is h;omega)
    have o3:=hold 3 (fun i hi h=>by have:=slotG_is h;omega)
    simp at o0 o3
    have hjj : j = 0 ∨ j = 1 ∨ j = 2 ∨ j = 3 ∨ j = 4 ∨ j = 5 ∨ j = 6 ∨ j = 7 ∨ j = 8 ∨ j = 9 ∨ j = 10:=by omega
    rcases hjj with rfl | rfl | rfl | rfl | rfl | rfl | rfl | rfl | rfl | rfl | rfl
    all_goals (cases ho;simp [Region.binds,slotG] at hdep;refine ⟨rfl,rfl,?_⟩)
    iterate 4 (· first | (refine .inl ⟨(by first | rfl | (simp [Region.wanted,yielded,hdep];done)),fun K hK=>?_⟩;unfold Oper.wp;simp [execOp,Oper.upon,go_sem,Act.eval,hdep,o0,o3,r3,r4,r5,s0,s1,s2,h1b];exact hK _ bz0) | (refine .inl ⟨rfl,fun K hK=>?_⟩;unfold Oper.wp;simp [execOp,Oper.upon,go_sem,Act.eval,o0,o3,r3,r4,r5,s0,s1,s2,h1b];exact hK _ bz0))
    ·(refine .inl ⟨(by first | rfl | (simp [Region.wanted,yielded,hdep];done)),fun K hK=>?_⟩;unfold Oper.wp;simp [execOp,Oper.upon,resolve,invoke,go_sem,Act.eval,hdep,o0,o3,r3,r4,r5,s0,s1,s2,h1b];(refine (EB.out _).mono ?_;rintro e' w' ⟨rfl,hb'⟩;exact hK _ hb'))
    iterate 6 (· first | (refine .inl ⟨(by first | rfl | (simp [Region.wanted,yielded,hdep];done)),fun K hK=>?_⟩;unfold Oper.wp;simp [execOp,Oper.upon,go_sem,Act.eval,hdep,o0,o3,r3,r4,r5,s0,s1,s2,h1b];exact hK _ bz0) | (refine .inl ⟨rfl,fun K hK=>?_⟩;unfold Oper.wp;simp [execOp,Oper.upon,go_sem,Act.eval,o0,o3,r3,r4,r5,s0,s1,s2,h1b];exact hK _ bz0))
   rintro V2 hV2
   have BV2:=Lib.hid hV2
   have b3:=OLD.out _ _ hV2 _ _ b3
   have b4:=OLD.out _ _ hV2 _ _ b4
   have b5:=OLD.out _ _ hV2 _ _ b5
   have p0:=OLD.out _ _ hV2 _ _ p0
   have p1:=OLD.out _ _ hV2 _ _ p1
   have p2:=OLD.out _ _ hV2 _ _ p2
   clear hV2
   go_wp2_with fail
   refine grow_region 29 (slotG 16 28 4) (fun jj=>(#[.pointer (some ⟨b,0,none⟩),.pointer (some ⟨b,0,none⟩),.pointer (some ⟨b,5,none⟩),.bool true,.bool false,.bool false,.agg #[.int .i64 off,.string s,.bool true],.int .i64 e,.pointer (some ⟨b,0,none⟩),.pointer (some ⟨b,0,none⟩),.pointer (some ⟨b,4,none⟩),.int .i64 f0,.bool false,.bool false,.bool false,.agg #[.int .i64 off,.string s,.bool true],.int .i64 e,.pointer (some ⟨b,0,none⟩),.pointer (some ⟨b,0,none⟩),.pointer (some ⟨b,4,none⟩),.int .i64 f0,.bool false,.bool false,undef,undef,undef,.bool false,.bool false,.bool false] : Array Value)[jj]?.getD undef) (tm:=#[.pointer (some ⟨b,0,none⟩),.agg #[.int .i64 off,.string s,.bool true],undef,.pointer (some ⟨w.heap.size,0,none⟩),.bool false,.pointer (some ⟨w.heap.size,2,none⟩),.bool true,.bool true,.agg #[.int .i64 off,.string s,.bool true],.int .i64 e,.pointer (some ⟨b,0,none⟩),.pointer (some ⟨b,0,none⟩),.pointer (some ⟨b,3,none⟩),.int .i64 hi,.bool false,.bool false,.pointer (some ⟨b,0,none⟩),.pointer (some ⟨b,0,none⟩),.pointer (some ⟨b,5,none⟩),.bool true,.bool false,.bool false,.agg #[.int .i64 off,.string s,.bool true],.int .i64 e,.pointer (some ⟨b,0,none⟩),.pointer (some ⟨b,0,none⟩),.pointer (some ⟨b,4,none⟩),.int .i64 f0,.bool false,.bool false,.bool false,.agg #[.int .i64 off,.string s,.bool true],.int .i64 e,.pointer (some ⟨b,0,none⟩),.pointer (some ⟨b,0,none⟩),.pointer (some ⟨b,4,none⟩),.int .i64 f0,.bool false,.bool false,undef,undef,undef,.bool false,.bool false]) rfl (by kernel_rfl) rfl (fun i d _ h=>by have:=slotG_is h;simp;omega) (fun i j d _ _ h1 h2=>by have:=slotG_is h1;have:=slotG_is h2;omega) ?_ (by kernel_rfl) ?_
   ·rintro j o hj ho a w1 hb ⟨hold,hdep⟩
    have r3:=OLD.out _ _ hb _ _ b3
    have r4:=OLD.out _ _ hb _ _ b4
    have r5:=OLD.out _ _ hb _ _ b5
    have s0:=OLD.out _ _ hb _ _ p0
    have s1:=OLD.out _ _ hb _ _ p1
    have s2:=OLD.out _ _ hb _ _ p2
    have o0:=hold 0 (fun i hi h=>by have:=slotG_is h;omega)
    have o3:=hold 3 (fun i hi h=>by have:=slotG_is h;omega)
    simp at o0 o3
    have hjj : j = 0 ∨ j = 1 ∨ j = 2 ∨ j = 3 ∨ j = 4 ∨ j = 5 ∨ j = 6 ∨ j = 7 ∨ j = 8 ∨ j = 9 ∨ j = 10 ∨ j = 11 ∨ j = 12 ∨ j = 13 ∨ j = 14 ∨ j = 15 ∨ j = 16 ∨ j = 17 ∨ j = 18 ∨ j = 19 ∨ j = 20 ∨ j = 21 ∨ j = 22 ∨ j = 23 ∨ j = 24 ∨ j = 25 ∨ j = 26 ∨ j = 27 ∨ j = 28:=by omega
    rcases hjj with rfl | rfl | rfl | rfl | rfl | rfl | rfl | rfl | rfl | rfl | rfl | rfl | rfl | rfl | rfl | rfl | rfl | rfl | rfl | rfl | rfl | rfl | rfl | rfl | rfl | rfl | rfl | rfl | rfl
    all_goals (cases ho;simp [Region.binds,slotG] at hdep;refine ⟨rfl,rfl,?_⟩)
    iterate 7 (· first | (refine .inl ⟨(by first | rfl | (simp [Region.wanted,yielded,hdep];done)),fun K hK=>?_⟩;unfold Oper.wp;simp [execOp,Oper.upon,go_sem,Act.eval,hdep,o0,o3,r3,r4,r5,s0,s1,s2,h2a,h2b];exact hK _ bz0) | (refine .inl ⟨rfl,fun K hK=>?_⟩;unfold Oper.wp;simp [execOp,Oper.upon,go_sem,Act.eval,o0,o3,r3,r4,r5,s0,s1,s2,h2a,h2b];exact hK _ bz0))
    ·(refine .inl ⟨(by first | rfl | (simp [Region.wanted,yielded,hdep];done)),fun K hK=>?_⟩;unfold Oper.wp;simp [execOp,Oper.upon,resolve,invoke,go_sem,Act.eval,hdep,o0,o3,r3,r4,r5,s0,s1,s2,h2a,h2b];(refine (EB.out _).mono ?_;rintro e' w' ⟨rfl,hb'⟩;exact hK _ hb'))
    iterate 8 (· first | (refine .inl ⟨(by first | rfl | (simp [Region.wanted,yielded,hdep];done)),fun K hK=>?_⟩;unfold Oper.wp;simp [execOp,Oper.upon,go_sem,Act.eval,hdep,o0,o3,r3,r4,r5,s0,s1,s2,h2a,h2b];exact hK _ bz0) | (refine .inl ⟨rfl,fun K hK=>?_⟩;unfold Oper.wp;simp [execOp,Oper.upon,go_sem,Act.eval,o0,o3,r3,r4,r5,s0,s1,s2,h2a,h2b];exact hK _ bz0))
    ·(refine .inl ⟨(by first | rfl | (simp [Region.wanted,yielded,hdep];done)),fun K hK=>?_⟩;unfold Oper.wp;simp [execOp,Oper.upon,resolve,invoke,go_sem,Act.eval,hdep,o0,o3,r3,r4,r5,s0,s1,s2,h2a,h2b];(refine (EB.out _).mono ?_;rintro e' w' ⟨rfl,hb'⟩;exact hK _ hb'))
    iterate 6 (· first | (refine .inl ⟨(by first | rfl | (simp [Region.wanted,yielded,hdep];done)),fun K hK=>?_⟩;unfold Oper.wp;simp [execOp,Oper.upon,go_sem,Act.eval,hdep,o0,o3,r3,r4,r5,s0,s1,s2,h2a,h2b];exact hK _ bz0) | (refine .inl ⟨rfl,fun K hK=>?_⟩;unfold Oper.wp;simp [execOp,Oper.upon,go_sem,Act.eval,o0,o3,r3,r4,r5,s0,s1,s2,h2a,h2b];exact hK _ bz0))
    iterate 3 (· exact .inr ⟨(by simp [Region.wanted,yielded,hdep,undef];done),rfl⟩)
    iterate 3 (· first | (refine .inl ⟨(by first | rfl | (simp [Region.wanted,yielded,hdep];done)),fun K hK=>?_⟩;unfold Oper.wp;simp [execOp,Oper.upon,go_sem,Act.eval,hdep,o0,o3,r3,r4,r5,s0,s1,s2,h2a,h2b];exact hK _ bz0) | (refine .inl ⟨rfl,fun K hK=>?_⟩;unfold Oper.wp;simp [execOp,Oper.upon,go_sem,Act.eval,o0,o3,r3,r4,r5,s0,s1,s2,h2a,h2b];exact hK _ bz0))
   rintro V3 hV3
   have BV3:=Lib.hid hV3
   clear hV3
   go_wp2
   go_ret
   exact ⟨rfl,btr (btr BV.out BV2.out rfl) BV3.out rfl⟩
  ·subst hk
   have h1b : (e < hi) = False:=eq_false (by have:=h3 rfl;omega)
   have h2a : (e == f0) = false:=beq_eq_false_iff_ne.2 (by omega)
   have h2b : e < f0:=h2
   clear h2 h3
   go_enter Tryz.func326,Tryz.ntmps326
   go_wp2_with fail
   refine grow_region 11 (slotG 5 11 0) (fun jj=>(#[.pointer (some ⟨w.heap.size,2,none⟩),.bool true,.bool true,.agg #[.int .i64 off,.string s,.bool true],.int .i64 e,.pointer (some ⟨b,0,none⟩),.pointer (some ⟨b,0,none⟩),.pointer (some ⟨b,3,none⟩),.int .i64 hi,.bool false,.bool false] : Array Value)[jj]?.getD undef) (tm:=#[.pointer (some ⟨b,0,none⟩),.agg #[.int .i64 off,.string s,.bool true],undef,.pointer (some ⟨w.heap.size,0,none⟩),.bool false,.pointer (some ⟨w.heap.size,2,none⟩),.bool true,.bool true,.agg #[.int .i64 off,.string s,.bool true],.int .i64 e,.pointer (some ⟨b,0,none⟩),.pointer (some ⟨b,0,none⟩),.pointer (some ⟨b,3,none⟩),.int .i64 hi,.bool false,.bool false,undef,undef,undef,undef,undef,undef,undef,undef,undef,undef,undef,undef,undef,undef,undef,undef,undef,undef,undef,undef,undef,undef,undef,undef,undef,undef,undef,undef]) rfl (by kernel_rfl) rfl (fun i d _ h=>by have:=slotG_is h;simp;omega) (fun i j d _ _ h1 h2=>by have:=slotG_is h1;have:=slotG_is h2;omega) ?_ (by kernel_rfl) ?_
   ·rintro j o hj ho a w1 hb ⟨hold,hdep⟩
    have r3:=OLD.out _ _ hb _ _ b3
    have r4:=OLD.out _ _ hb _ _ b4
    have r5:=OLD.out _ _ hb _ _ b5
    have s0:=OLD.out _ _ hb _ _ p0
    have s1:=OLD.out _ _ hb _ _ p1
    have s2:=OLD.out _ _ hb _ _ p2
    have o0:=hold 0 (fun i hi h=>by have:=slotG_is h;omega)
    have o3:=hold 3 (fun i hi h=>by have:=slotG_is h;omega)
    simp at o0 o3
    have hjj : j = 0 ∨ j = 1 ∨ j = 2 ∨ j = 3 ∨ j = 4 ∨ j = 5 ∨ j = 6 ∨ j = 7 ∨ j = 8 ∨ j = 9 ∨ j = 10:=by omega
    rcases hjj with rfl | rfl | rfl | rfl | rfl | rfl | rfl | rfl | rfl | rfl | rfl
    all_goals (cases ho;simp [Region.binds,slotG] at hdep;refine ⟨rfl,rfl,?_⟩)
    iterate 4 (· first | (refine .inl ⟨(by first | rfl | (simp [Region.wanted,yielded,hdep];done)),fun K hK=>?_⟩;unfold Oper.wp;simp [execOp,Oper.upon,go_sem,Act.eval,hdep,o0,o3,r3,r4,r5,s0,s1,s2,h1b];exact hK _ bz0) | (refine .inl ⟨rfl,fun K hK=>?_⟩;unfold Oper.wp;simp [execOp,Oper.upon,go_sem,Act.eval,o0,o3,r3,r4,r5,s0,s1,s2,h1b];exact hK _ bz0))
    ·(refine .inl ⟨(by first | rfl | (simp [Region.wanted,yielded,hdep];done)),fun K hK=>?_⟩;unfold Oper.wp;simp [execOp,Oper.upon,resolve,invoke,go_sem,Act.eval,hdep,o0,o3,r3,r4,r5,s0,s1,s2,h1b];(refine (EB.out _).mono ?_;rintro e' w' ⟨rfl,hb'⟩;exact hK _ hb'))
    iterate 6 (· first | (refine .inl ⟨(by first | rfl | (simp [Region.wanted,yielded,hdep];done)),fun K hK=>?_⟩;unfold Oper.wp;simp [execOp,Oper.upon,go_sem,Act.eval,hdep,o0,o3,r3,r4,r5,s0,s1,s2,h1b];exact hK _ bz0) | (refine .inl ⟨rfl,fun K hK=>?_⟩;unfold Oper.wp;simp [execOp,Oper.upon,go_sem,Act.eval,o0,o3,r3,r4,r5,s0,s1,s2,h1b];exact hK _ bz0))
   rintro V2 hV2
   have BV2:=Lib.hid hV2
   have b3:=OLD.out _ _ hV2 _ _ b3
   have b4:=OLD.out _ _ hV2 _ _ b4
   have b5:=OLD.out _ _ hV2 _ _ b5
   have p0:=OLD.out _ _ hV2 _ _ p0
   have p1:=OLD.out _ _ hV2 _ _ p1
   have p2:=OLD.out _ _ hV2 _ _ p2
   clear hV2
   go_wp2_with fail
   refine grow_region 29 (slotG 16 28 4) (fun jj=>(#[.pointer (some ⟨b,0,none⟩),.pointer (some ⟨b,0,none⟩),.pointer (some ⟨b,5,none⟩),.bool true,.bool false,.bool false,.agg #[.int .i64 off,.string s,.bool true],.int .i64 e,.pointer (some ⟨b,0,none⟩),.pointer (some ⟨b,0,none⟩),.pointer (some ⟨b,4,none⟩),.int .i64 f0,.bool false,.bool false,.bool false,.agg #[.int .i64 off,.string s,.bool true],.int .i64 e,.pointer (some ⟨b,0,none⟩),.pointer (some ⟨b,0,none⟩),.pointer (some ⟨b,4,none⟩),.int .i64 f0,.bool true,.bool true,.pointer (some ⟨w.heap.size,2,none⟩),.bool true,.bool false,.bool false,.bool false,.bool false] : Array Value)[jj]?.getD undef) (tm:=#[.pointer (some ⟨b,0,none⟩),.agg #[.int .i64 off,.string s,.bool true],undef,.pointer (some ⟨w.heap.size,0,none⟩),.bool false,.pointer (some ⟨w.heap.size,2,none⟩),.bool true,.bool true,.agg #[.int .i64 off,.string s,.bool true],.int .i64 e,.pointer (some ⟨b,0,none⟩),.pointer (some ⟨b,0,none⟩),.pointer (some ⟨b,3,none⟩),.int .i64 hi,.bool false,.bool false,.pointer (some ⟨b,0,none⟩),.pointer (some ⟨b,0,none⟩),.pointer (some ⟨b,5,none⟩),.bool true,.bool false,.bool false,.agg #[.int .i64 off,.string s,.bool true],.int .i64 e,.pointer (some ⟨b,0,none⟩),.pointer (some ⟨b,0,none⟩),.pointer (some ⟨b,4,none⟩),.int .i64 f0,.bool false,.bool false,.bool false,.agg #[.int .i64 off,.string s,.bool true],.int .i64 e,.pointer (some ⟨b,0,none⟩),.pointer (some ⟨b,0,none⟩),.pointer (some ⟨b,4,none⟩),.int .i64 f0,.bool true,.bool true,.pointer (some ⟨w.heap.size,2,none⟩),.bool true,.bool false,.bool false,.bool false]) rfl (by kernel_rfl) rfl (fun i d _ h=>by have:=slotG_is h;simp;omega) (fun i j d _ _ h1 h2=>by have:=slotG_is h1;have:=slotG_is h2;omega) ?_ (by kernel_rfl) ?_
   ·rintro j o hj ho a w1 hb ⟨hold,hdep⟩
    have r3:=OLD.out _ _ hb _ _ b3
    have r4:=OLD.out _ _ hb _ _ b4
    have r5:=OLD.out _ _ hb _ _ b5
    have s0:=OLD.out _ _ hb _ _ p0
    have s1:=OLD.out _ _ hb _ _ p1
    have s2:=OLD.out _ _ hb _ _ p2
    have o0:=hold 0 (fun i hi h=>by have:=slotG_is h;omega)
    have o3:=hold 3 (fun i hi h=>by have:=slotG_is h;omega)
    simp at o0 o3
    have hjj : j = 0 ∨ j = 1 ∨ j = 2 ∨ j = 3 ∨ j = 4 ∨ j = 5 ∨ j = 6 ∨ j = 7 ∨ j = 8 ∨ j = 9 ∨ j = 10 ∨ j = 11 ∨ j = 12 ∨ j = 13 ∨ j = 14 ∨ j = 15 ∨ j = 16 ∨ j = 17 ∨ j = 18 ∨ j = 19 ∨ j = 20 ∨ j = 21 ∨ j = 22 ∨ j = 23 ∨ j = 24 ∨ j = 25 ∨ j = 26 ∨ j = 27 ∨ j = 28:=by omega
    rcases hjj with rfl | rfl | rfl | rfl | rfl | rfl | rfl | rfl | rfl | rfl | rfl | rfl | rfl | rfl | rfl | rfl | rfl | rfl | rfl | rfl | rfl | rfl | rfl | rfl | rfl | rfl | rfl | rfl | rfl
    all_goals (cases ho;simp [Region.binds,slotG] at hdep;refine ⟨rfl,rfl,?_⟩)
    iterate 7 (· first | (refine .inl ⟨(by first | rfl | (simp [Region.wanted,yielded,hdep];done)),fun K hK=>?_⟩;unfold Oper.wp;simp [execOp,Oper.upon,go_sem,Act.eval,hdep,o0,o3,r3,r4,r5,s0,s1,s2,h2a,h2b];exact hK _ bz0) | (refine .inl ⟨rfl,fun K hK=>?_⟩;unfold Oper.wp;simp [execOp,Oper.upon,go_sem,Act.eval,o0,o3,r3,r4,r5,s0,s1,s2,h2a,h2b];exact hK _ bz0))
    ·(refine .inl ⟨(by first | rfl | (simp [Region.wanted,yielded,hdep];done)),fun K hK=>?_⟩;unfold Oper.wp;simp [execOp,Oper.upon,resolve,invoke,go_sem,Act.eval,hdep,o0,o3,r3,r4,r5,s0,s1,s2,h2a,h2b];(refine (EB.out _).mono ?_;rintro e' w' ⟨rfl,hb'⟩;exact hK _ hb'))
    iterate 8 (· first | (refine .inl ⟨(by first | rfl | (simp [Region.wanted,yielded,hdep];done)),fun K hK=>?_⟩;unfold Oper.wp;simp [execOp,Oper.upon,go_sem,Act.eval,hdep,o0,o3,r3,r4,r5,s0,s1,s2,h2a,h2b];exact hK _ bz0) | (refine .inl ⟨rfl,fun K hK=>?_⟩;unfold Oper.wp;simp [execOp,Oper.upon,go_sem,Act.eval,o0,o3,r3,r4,r5,s0,s1,s2,h2a,h2b];exact hK _ bz0))
    ·(refine .inl ⟨(by first | rfl | (simp [Region.wanted,yielded,hdep];done)),fun K hK=>?_⟩;unfold Oper.wp;simp [execOp,Oper.upon,resolve,invoke,go_sem,Act.eval,hdep,o0,o3,r3,r4,r5,s0,s1,s2,h2a,h2b];(refine (EB.out _).mono ?_;rintro e' w' ⟨rfl,hb'⟩;exact hK _ hb'))
    iterate 12 (· first | (refine .inl ⟨(by first | rfl | (simp [Region.wanted,yielded,hdep];done)),fun K hK=>?_⟩;unfold Oper.wp;simp [execOp,Oper.upon,go_sem,Act.eval,hdep,o0,o3,r3,r4,r5,s0,s1,s2,h2a,h2b];exact hK _ bz0) | (refine .inl ⟨rfl,fun K hK=>?_⟩;unfold Oper.wp;simp [execOp,Oper.upon,go_sem,Act.eval,o0,o3,r3,r4,r5,s0,s1,s2,h2a,h2b];exact hK _ bz0))
   rintro V3 hV3
   have BV3:=Lib.hid hV3
   clear hV3
   go_wp2
   go_ret
   exact ⟨rfl,btr (btr BV.out BV2.out rfl) BV3.out rfl⟩
end
section
open Go.RowKit
theorem put_ag (b g1 g2 : Nat) (R : Rb) (off : Nat) (s : ByteArray) (fin : Bool) (a0 a1 a2 a3 : Addr) (w : World) (h : RbAt w b g1 g2 R) (hE : Errs w a0 a1 a2 a3) (hsz : s.size ≤ 8192) (hmx : (off : Int) + s.size ≤ 1099511627776) (hat : R.at_ ≤ 1125899906842624) (hag : agF R.at_ R.bs R.hs off (bytesOf s) = false) :
  Calls Tryz.prog 270 #[.pointer (some ⟨b,0,none⟩),.agg (pcO off s fin)] w fun e w'=>e = .returned (.iface 377 (.pointer (some a0))) ∧ Below w.heap.size w w':=by
 have X:=Lib.hid (box1 w (.cells (pcO off s fin) 309))
 have HT:=Lib.hid (show RbAt (w.alloc (.cells (pcO off s fin) 309)) b g1 g2 R from h.below X.out.2.1)
 have CK:=Lib.hid (checks_any b a0 a1 a2 a3 _ (hE.below X.out.2.1))
 have K1:=Lib.hid (fun wx=>ck1_ok off s fin wx hsz hmx)
 have K2:=Lib.hid (fun wx (h : RbAt wx b g1 g2 R)=>(agrees_any b g1 g2 R off s fin wx h (by omega) hsz hat))
 rw [hag] at K2
 have PC:=Lib.hid (fun (wx : World) (hx : wx.heap[w.heap.size]? = some (.cells (pcO off s fin) 309 (0,0)))=>(show wx.cell? ⟨w.heap.size,0,none⟩ = some (.int .i64 off) ∧ wx.cell? ⟨w.heap.size,1,none⟩ = some (.string s) ∧ wx.cell? ⟨w.heap.size,2,none⟩ = some (.bool fin) from ⟨at_whole hx 0 rfl,at_whole hx 1 rfl,at_whole hx 2 rfl⟩))
 have P0:=Lib.hid X.out.1
 clear h hE
 unfold pcO at *
 go_enter Tryz.func270,Tryz.ntmps270
 go_wp2_with fail
 refine CK.out.mono ?_
 rintro e w1 ⟨rfl,hb1,hB⟩
 have T1:=Lib.hid (HT.out.below hb1)
 have P1:=Lib.hid (heap_below hb1 P0.out)
 have C1:=Lib.hid hB
 have Z1:=Lib.hid (show Below w.heap.size w w1 from X.out.2.1.trans (hb1.mono (by rw [X.out.2.2];omega)))
 clear hb1 hB CK
 generalize (w.alloc _).heap.size = B at *
 have ix0:=fun wx=>cidx0 b B a0 a1 a2 a3 wx
 have ix1:=fun wx=>cidx1 b B a0 a1 a2 a3 wx
 have ix2:=fun wx=>cidx2 b B a0 a1 a2 a3 wx
 have ix3:=fun wx=>cidx3 b B a0 a1 a2 a3 wx
 generalize ckC b B a0 a1 a2 a3 = CC at *
 go_wp2_with fail
 refine wp_loop_rounds 5 ?_
 have AL:=Lib.hid (fun (wx : World) (o : Obj)=>(Below.refl wx.heap.size wx).alloc (Nat.le_refl _) o)
 rw [rounds_succ]
 obtain ⟨p0,p1,p2⟩:=PC.out (w1.alloc (.cells #[.func (.func 324) #[] #[],.iface 377 (.pointer (some a3))] 336)) (heap_below (AL.out _ _) P1.out)
 go_wp2_with fail
 refine (K1.out _).mono ?_
 rintro e w2 ⟨rfl,hb⟩
 have T2:=Lib.hid ((T1.out.below (AL.out _ _)).below hb)
 have P2:=Lib.hid (heap_below hb (heap_below (AL.out _ (.cells #[.func (.func 324) #[] #[],.iface 377 (.pointer (some a3))] 336)) P1.out))
 have C2:=Lib.hid (heap_below hb (heap_below (AL.out _ (.cells #[.func (.func 324) #[] #[],.iface 377 (.pointer (some a3))] 336)) C1.out))
 have Z2:=Lib.hid (btr2 (btr2 Z1.out (AL.out _ (.cells #[.func (.func 324) #[] #[],.iface 377 (.pointer (some a3))] 336))) hb)
 clear hb p0 p1 p2 T1 P1 C1 Z1
 go_wp2_with fail
 rw [rounds_succ]
 obtain ⟨p0,p1,p2⟩:=PC.out (w2.alloc (.cells #[.func (.func 325) #[.pointer (some ⟨b,0,none⟩)] #[],.iface 377 (.pointer (some a0))] 336)) (heap_below (AL.out _ _) P2.out)
 go_wp2_with fail
 refine (K2.out _ (T2.out.below (AL.out _ _))).mono ?_
 rintro e w3 ⟨rfl,hb⟩
 have T3:=Lib.hid ((T2.out.below (AL.out _ _)).below hb)
 have P3:=Lib.hid (heap_below hb (heap_below (AL.out _ (.cells #[.func (.func 325) #[.pointer (some ⟨b,0,none⟩)] #[],.iface 377 (.pointer (some a0))] 336)) P2.out))
 have C3:=Lib.hid (heap_below hb (heap_below (AL.out _ (.cells #[.func (.func 325) #[.pointer (some ⟨b,0,none⟩)] #[],.iface 377 (.pointer (some a0))] 336)) C2.out))
 have Z3:=Lib.hid (btr2 (btr2 Z2.out (AL.out _ (.cells #[.func (.func 325) #[.pointer (some ⟨b,0,none⟩)] #[],.iface 377 (.pointer (some a0))] 336))) hb)
 have ZZ:=Lib.hid Z3.out
 have k1 : w3.cell? ⟨w2.heap.size,1,none⟩ = some (.iface 377 (.pointer (some a0))):=at_whole (heap_below hb (heap_alloc_new w2 _)) 1 rfl
 clear hb p0 p1 p2
 go_wp2_with fail
 go_ret
 exact ⟨rfl,ZZ.out⟩
theorem put_fin (b g1 g2 : Nat) (R : Rb) (off : Nat) (s : ByteArray) (fin : Bool) (a0 a1 a2 a3 : Addr) (w : World) (h : RbAt w b g1 g2 R) (hE : Errs w a0 a1 a2 a3) (hsz : s.size ≤ 8192) (hmx : (off : Int) + s.size ≤ 1099511627776) (hat : R.at_ ≤ 1125899906842624) (hag : agF R.at_ R.bs R.hs off (bytesOf s) = true) (hfn : (fin = true ∧ (off : Int) + s.size < R.hi) ∨ ((fin = true → R.hi ≤ (off : Int) + s.size) ∧ R.kn = true ∧ ((off : Int) + s.size > R.fin ∨ ((off : Int) + s.size < R.fin ∧ fin = true)))) :
  Calls Tryz.prog 270 #[.pointer (some ⟨b,0,none⟩),.agg (pcO off s fin)] w fun e w'=>e = .returned (.iface 377 (.pointer (some a1))) ∧ Below w.heap.size w w':=by
 have X:=Lib.hid (box1 w (.cells (pcO off s fin) 309))
 have HT:=Lib.hid (show RbAt (w.alloc (.cells (pcO off s fin) 309)) b g1 g2 R from h.below X.out.2.1)
 have CK:=Lib.hid (checks_any b a0 a1 a2 a3 _ (hE.below X.out.2.1))
 have K1:=Lib.hid (fun wx=>ck1_ok off s fin wx hsz hmx)
 have K2:=Lib.hid (fun wx (h : RbAt wx b g1 g2 R)=>(agrees_any b g1 g2 R off s fin wx h (by omega) hsz hat))
 rw [hag] at K2
 have K3:=Lib.hid (fun wx (h : RbAt wx b g1 g2 R)=>isFinal_no b g1 g2 R off s fin wx h (by omega) hsz hfn)
 have PC:=Lib.hid (fun (wx : World) (hx : wx.heap[w.heap.size]? = some (.cells (pcO off s fin) 309 (0,0)))=>(show wx.cell? ⟨w.heap.size,0,none⟩ = some (.int .i64 off) ∧ wx.cell? ⟨w.heap.size,1,none⟩ = some (.string s) ∧ wx.cell? ⟨w.heap.size,2,none⟩ = some (.bool fin) from ⟨at_whole hx 0 rfl,at_whole hx 1 rfl,at_whole hx 2 rfl⟩))
 have P0:=Lib.hid X.out.1
 clear h hE
 unfold pcO at *
 go_enter Tryz.func270,Tryz.ntmps270
 go_wp2_with fail
 refine CK.out.mono ?_
 rintro e w1 ⟨rfl,hb1,hB⟩
 have T1:=Lib.hid (HT.out.below hb1)
 have P1:=Lib.hid (heap_below hb1 P0.out)
 have C1:=Lib.hid hB
 have Z1:=Lib.hid (show Below w.heap.size w w1 from X.out.2.1.trans (hb1.mono (by rw [X.out.2.2];omega)))
 clear hb1 hB CK
 generalize (w.alloc _).heap.size = B at *
 have ix0:=fun wx=>cidx0 b B a0 a1 a2 a3 wx
 have ix1:=fun wx=>cidx1 b B a0 a1 a2 a3 wx
 have ix2:=fun wx=>cidx2 b B a0 a1 a2 a3 wx
 have ix3:=fun wx=>cidx3 b B a0 a1 a2 a3 wx
 generalize ckC b B a0 a1 a2 a3 = CC at *
 go_wp2_with fail
 refine wp_loop_rounds 5 ?_
 have AL:=Lib.hid (fun (wx : World) (o : Obj)=>(Below.refl wx.heap.size wx).alloc (Nat.le_refl _) o)
 rw [rounds_succ]
 obtain ⟨p0,p1,p2⟩:=PC.out (w1.alloc (.cells #[.func (.func 324) #[] #[],.iface 377 (.pointer (some a3))] 336)) (heap_below (AL.out _ _) P1.out)
 go_wp2_with fail
 refine (K1.out _).mono ?_
 rintro e w2 ⟨rfl,hb⟩
 have T2:=Lib.hid ((T1.out.below (AL.out _ _)).below hb)
 have P2:=Lib.hid (heap_below hb (heap_below (AL.out _ (.cells #[.func (.func 324) #[] #[],.iface 377 (.pointer (some a3))] 336)) P1.out))
 have C2:=Lib.hid (heap_below hb (heap_below (AL.out _ (.cells #[.func (.func 324) #[] #[],.iface 377 (.pointer (some a3))] 336)) C1.out))
 have Z2:=Lib.hid (btr2 (btr2 Z1.out (AL.out _ (.cells #[.func (.func 324) #[] #[],.iface 377 (.pointer (some a3))] 336))) hb)
 clear hb p0 p1 p2 T1 P1 C1 Z1
 go_wp2_with fail
 rw [rounds_succ]
 obtain ⟨p0,p1,p2⟩:=PC.out (w2.alloc (.cells #[.func (.func 325) #[.pointer (some ⟨b,0,none⟩)] #[],.iface 377 (.pointer (some a0))] 336)) (heap_below (AL.out _ _) P2.out)
 go_wp2_with fail
 refine (K2.out _ (T2.out.below (AL.out _ _))).mono ?_
 rintro e w3 ⟨rfl,hb⟩
 have T3:=Lib.hid ((T2.out.below (AL.out _ _)).below hb)
 have P3:=Lib.hid (heap_below hb (heap_below (AL.out _ (.cells #[.func (.func 325) #[.pointer (some ⟨b,0,none⟩)] #[],.iface 377 (.pointer (some a0))] 336)) P2.out))
 have C3:=Lib.hid (heap_below hb (heap_below (AL.out _ (.cells #[.func (.func 325) #[.pointer (some ⟨b,0,none⟩)] #[],.iface 377 (.pointer (some a0))] 336)) C2.out))
 have Z3:=Lib.hid (btr2 (btr2 Z2.out (AL.out _ (.cells #[.func (.func 325) #[.pointer (some ⟨b,0,none⟩)] #[],.iface 377 (.pointer (some a0))] 336))) hb)
 clear hb p0 p1 p2 T2 P2 C2 Z2
 go_wp2_with fail
 rw [rounds_succ]
 obtain ⟨p0,p1,p2⟩:=PC.out (w3.alloc (.cells #[.func (.func 326) #[.pointer (some ⟨b,0,none⟩)] #[],.iface 377 (.pointer (some a1))] 336)) (heap_below (AL.out _ _) P3.out)
 go_wp2_with fail
 refine (K3.out _ (T3.out.below (AL.out _ _))).mono ?_
 rintro e w4 ⟨rfl,hb⟩
 have T4:=Lib.hid ((T3.out.below (AL.out _ _)).below hb)
 have P4:=Lib.hid (heap_below hb (heap_below (AL.out _ (.cells #[.func (.func 326) #[.pointer (some ⟨b,0,none⟩)] #[],.iface 377 (.pointer (some a1))] 336)) P3.out))
 have C4:=Lib.hid (heap_below hb (heap_below (AL.out _ (.cells #[.func (.func 326) #[.pointer (some ⟨b,0,none⟩)] #[],.iface 377 (.pointer (some a1))] 336)) C3.out))
 have Z4:=Lib.hid (btr2 (btr2 Z3.out (AL.out _ (.cells #[.func (.func 326) #[.pointer (some ⟨b,0,none⟩)] #[],.iface 377 (.pointer (some a1))] 336))) hb)
 have ZZ:=Lib.hid Z4.out
 have k1 : w4.cell? ⟨w3.heap.size,1,none⟩ = some (.iface 377 (.pointer (some a1))):=at_whole (heap_below hb (heap_alloc_new w3 _)) 1 rfl
 clear hb p0 p1 p2
 go_wp2_with fail
 go_ret
 exact ⟨rfl,ZZ.out⟩
end
end Go.Proofs.YthckbmcmdcemkaaGreatDoor.rea
