/- Texts of this claim, one behind the other: Rpg. -/
import Derived.Test.YthckbmcmdcemkaaGreatDoorBs13
import Derived.Test.YthckbmcmdcemkaaGreatDoorBs15
import Derived.Deep.RegionWith
set_option maxRecDepth 100000
set_option maxHeartbeats 16000000
set_option linter.unusedSimpArgs false
set_option linter.unusedVariables false
namespace Go.Proofs.YthckbmcmdcemkaaGreatDoor.rea
section
open Go.RowKit
theorem cell_al {W : World} {a : Addr} {v : Value} (o : Obj) (h : W.cell? a = some v) : (W.alloc o).cell? a = some v:=cell_kept h (World.grownBy_alloc W o none) (fun r e=>by cases e)
theorem btr {a b c : World} {n : Nat} (h : Below n a b) (k : Below b.heap.size b c) (hn : n = a.heap.size) : Below n a c:=h.trans (k.mono (by rw [hn];exact h.size))
theorem isFinal_ok (b g1 g2 : Nat) (R : Rb) (off : Nat) (s : ByteArray) (fin : Bool) (w : World) (h : RbAt w b g1 g2 R) (hoff : off ≤ 1099511627776) (hs : s.size ≤ 8192)
  (h1 : fin = true → R.hi ≤ (off : Int) + s.size) (h2 : R.kn = false ∨ (off : Int) + s.size = R.fin ∨ ((off : Int) + s.size < R.fin ∧ fin = false)) :
  Calls Tryz.prog 326 #[.pointer (some ⟨b,0,none⟩),.agg (pcO off s fin)] w fun e w'=>e = .returned (.bool true) ∧ Below w.heap.size w w':=by
 obtain ⟨c0,c1,c2,c3,c4,c5⟩:=h.cells
 have X:=Lib.hid (box1 w (.cells (pcO off s fin) 309))
 have EN:=Lib.hid (fun wx=>end_any off s fin wx (by omega))
 unfold pcO at *
 obtain ⟨V,hV⟩ : ∃ V,V = w.alloc (.cells #[.int .i64 off,.string s,.bool fin] 309):=⟨_,rfl⟩
 have b3 : V.cell? ⟨b,3,none⟩ = some (.int .i64 R.hi):=by rw [hV];exact cell_al _ c3
 have b4 : V.cell? ⟨b,4,none⟩ = some (.int .i64 R.fin):=by rw [hV];exact cell_al _ c4
 have b5 : V.cell? ⟨b,5,none⟩ = some (.bool R.kn):=by rw [hV];exact cell_al _ c5
 have p0 : V.cell? ⟨w.heap.size,0,none⟩ = some (.int .i64 off):=by rw [hV];exact at_whole X.out.1 0 rfl
 have p1 : V.cell? ⟨w.heap.size,1,none⟩ = some (.string s):=by rw [hV];exact at_whole X.out.1 1 rfl
 have p2 : V.cell? ⟨w.heap.size,2,none⟩ = some (.bool fin):=by rw [hV];exact at_whole X.out.1 2 rfl
 have BV:=Lib.hid (show Below w.heap.size w V from by rw [hV];exact X.out.2.1)
 have hVw : w.alloc (.cells #[.int .i64 off,.string s,.bool fin] 309) = V:=hV.symm
 have OLD : Hid (∀ (wx w' : World),Below wx.heap.size wx w' → ∀ p v,wx.cell? p = some v → w'.cell? p = some v):=Lib.hid (fun wx w' hb p v hv=>(hb.cell (World.block_lt_of_cell? _ _ hv)).trans hv)
 obtain ⟨e,he⟩ : ∃ e,(off : Int) + s.size = e:=⟨_,rfl⟩
 rw [he] at EN h1 h2
 clear c0 c1 c2 c3 c4 c5 hV X h he
 generalize R.hi = hi at *
 generalize R.fin = f0 at *
 generalize R.kn = kn at *
 have EB:=Lib.hid (fun wx=>(EN.out wx).mono (fun e w' h=>(⟨h.1,by rw [h.2];exact (Below.refl _ wx).alloc (Nat.le_refl _) _⟩ : e = _ ∧ Below wx.heap.size wx w')))
 clear EN
 cases fin
 ·clear h1
  cases kn
  ·clear h2
   go_enter Tryz.func326,Tryz.ntmps326
   go_wp2_with fail
   refine grow_region 11 (slotG 5 11 0) (fun jj=>(#[.pointer (some ⟨w.heap.size,2,none⟩),.bool false,.bool false,undef,undef,undef,undef,undef,undef,undef,.bool false] : Array Value)[jj]?.getD undef) (tm:=#[.pointer (some ⟨b,0,none⟩),.agg #[.int .i64 off,.string s,.bool false],undef,.pointer (some ⟨w.heap.size,0,none⟩),.bool false,.pointer (some ⟨w.heap.size,2,none⟩),.bool false,.bool false,undef,undef,undef,undef,undef,undef,undef,.bool false,undef,undef,undef,undef,undef,undef,undef,undef,undef,undef,undef,undef,undef,undef,undef,undef,undef,undef,undef,undef,undef,undef,undef,undef,undef,undef,undef,undef]) rfl (by kernel_rfl) rfl (fun i d _ h=>by have:=slotG_is h;simp;omega) (fun i j d _ _ h1 h2=>by have:=slotG_is h1;have:=slotG_is h2;omega) ?_ (by kernel_rfl) ?_
   ·rintro j o hj ho a w1 hb ⟨hold,hdep⟩
    have r3:=OLD.out _ _ hb _ _ b3
    have r4:=OLD.out _ _ hb _ _ b4
    have r5:=OLD.out _ _ hb _ _ b5
    have s0:=OLD.out _ _ hb _ _ p0
    have s1:=OLD.out _ _ hb _ _ p1
    have s2:=OLD.out _ _ hb _ _ p2
    have o0:=hold 0 (fun i hi h=>by have:=slotG_is h;omega)
    have o3:=hold 3 (fun i hi h=>by have:=slotG_is h;omega)
    simp at o0 o3
    have hjj : j = 0 ∨ j = 1 ∨ j = 2 ∨ j = 3 ∨ j = 4 ∨ j = 5 ∨ j = 6 ∨ j = 7 ∨ j = 8 ∨ j = 9 ∨ j = 10:=by omega
    rcases hjj with rfl | rfl | rfl | rfl | rfl | rfl | rfl | rfl | rfl | rfl | rfl
    all_goals (cases ho;simp [Region.binds,slotG] at hdep;refine ⟨rfl,rfl,?_⟩)
    iterate 3 (· first | (refine .inl ⟨(by first | rfl | (simp [Region.wanted,yielded,hdep];done)),fun K hK=>?_⟩;unfold Oper.wp;simp [execOp,Oper.upon,go_sem,Act.eval,o3];exact hK _ bz0) | (refine .inl ⟨rfl,fun K hK=>?_⟩;unfold Oper.wp;simp [execOp,Oper.upon,go_sem,Act.eval,o0,o3,r3,r4,r5,s0,s1,s2];exact hK _ bz0) | (refine .inl ⟨(by first | rfl | (simp [Region.wanted,yielded,hdep];done)),fun K hK=>?_⟩;unfold Oper.wp;simp [execOp,Oper.upon,go_sem,Act.eval,hdep,s2];exact hK _ bz0) | (refine .inl ⟨(by first | rfl | (simp [Region.wanted,yielded,hdep];done)),fun K hK=>?_⟩;unfold Oper.wp;simp [execOp,Oper.upon,go_sem,Act.eval,hdep];exact hK _ bz0))
    iterate 7 (· exact .inr ⟨(by simp [Region.wanted,yielded,hdep];done),rfl⟩)
    ·first | (refine .inl ⟨(by first | rfl | (simp [Region.wanted,yielded,hdep];done)),fun K hK=>?_⟩;unfold Oper.wp;simp [execOp,Oper.upon,go_sem,Act.eval,hdep];exact hK _ bz0) | (refine .inl ⟨rfl,fun K hK=>?_⟩;unfold Oper.wp;simp [execOp,Oper.upon,go_sem,Act.eval,o0,o3,r3,r4,r5,s0,s1,s2];exact hK _ bz0)
   rintro V2 hV2
   have BV2:=Lib.hid hV2
   have b3:=OLD.out _ _ hV2 _ _ b3
   have b4:=OLD.out _ _ hV2 _ _ b4
   have b5:=OLD.out _ _ hV2 _ _ b5
   have p0:=OLD.out _ _ hV2 _ _ p0
   have p1:=OLD.out _ _ hV2 _ _ p1
   have p2:=OLD.out _ _ hV2 _ _ p2
   clear hV2
   go_wp2_with fail
   refine grow_region 29 (slotG 16 28 4) (fun jj=>(#[.pointer (some ⟨b,0,none⟩),.pointer (some ⟨b,0,none⟩),.pointer (some ⟨b,5,none⟩),.bool false,.bool true,.bool true,undef,undef,undef,undef,undef,undef,undef,.bool true,.bool true,undef,undef,undef,undef,undef,undef,undef,undef,undef,undef,undef,undef,.bool true,.bool true] : Array Value)[jj]?.getD undef) (tm:=#[.pointer (some ⟨b,0,none⟩),.agg #[.int .i64 off,.string s,.bool false],undef,.pointer (some ⟨w.heap.size,0,none⟩),.bool true,.pointer (some ⟨w.heap.size,2,none⟩),.bool false,.bool false,undef,undef,undef,undef,undef,undef,undef,.bool false,.pointer (some ⟨b,0,none⟩),.pointer (some ⟨b,0,none⟩),.pointer (some ⟨b,5,none⟩),.bool false,.bool true,.bool true,undef,undef,undef,undef,undef,undef,undef,.bool true,.bool true,undef,undef,undef,undef,undef,undef,undef,undef,undef,undef,undef,undef,.bool true]) rfl (by kernel_rfl) rfl (fun i d _ h=>by have:=slotG_is h;simp;omega) (fun i j d _ _ h1 h2=>by have:=slotG_is h1;have:=slotG_is h2;omega) ?_ (by kernel_rfl) ?_
   ·rintro j o hj ho a w1 hb ⟨hold,hdep⟩
    have r3:=OLD.out _ _ hb _ _ b3
    have r4:=OLD.out _ _ hb _ _ b4
    have r5:=OLD.out _ _ hb _ _ b5
    have s0:=OLD.out _ _ hb _ _ p0
    have s1:=OLD.out _ _ hb _ _ p1
    have s2:=OLD.out _ _ hb _ _ p2
    have o0:=hold 0 (fun i hi h=>by have:=slotG_is h;omega)
    have o3:=hold 3 (fun i hi h=>by have:=slotG_is h;omega)
    simp at o0 o3
    have hjj : j = 0 ∨ j = 1 ∨ j = 2 ∨ j = 3 ∨ j = 4 ∨ j = 5 ∨ j = 6 ∨ j = 7 ∨ j = 8 ∨ j = 9 ∨ j = 10 ∨ j = 11 ∨ j = 12 ∨ j = 13 ∨ j = 14 ∨ j = 15 ∨ j = 16 ∨ j = 17 ∨ j = 18 ∨ j = 19 ∨ j = 20 ∨ j = 21 ∨ j = 22 ∨ j = 23 ∨ j = 24 ∨ j = 25 ∨ j = 26 ∨ j = 27 ∨ j = 28:=by omega
    rcases hjj with rfl | rfl | rfl | rfl | rfl | rfl | rfl | rfl | rfl | rfl | rfl | rfl | rfl | rfl | rfl | rfl | rfl | rfl | rfl | rfl | rfl | rfl | rfl | rfl | rfl | rfl | rfl | rfl | rfl
    all_goals (cases ho;simp [Region.binds,slotG] at hdep;refine ⟨rfl,rfl,?_⟩)
    iterate 6 (· first | (refine .inl ⟨(by first | rfl | (simp [Region.wanted,yielded,hdep];done)),fun K hK=>?_⟩;unfold Oper.wp;simp [execOp,Oper.upon,go_sem,Act.eval,o0];exact hK _ bz0) | (refine .inl ⟨rfl,fun K hK=>?_⟩;unfold Oper.wp;simp [execOp,Oper.upon,go_sem,Act.eval,o0,o3,r3,r4,r5,s0,s1,s2];exact hK _ bz0) | (refine .inl ⟨(by first | rfl | (simp [Region.wanted,yielded,hdep];done)),fun K hK=>?_⟩;unfold Oper.wp;simp [execOp,Oper.upon,go_sem,Act.eval,hdep];exact hK _ bz0) | (refine .inl ⟨(by first | rfl | (simp [Region.wanted,yielded,hdep];done)),fun K hK=>?_⟩;unfold Oper.wp;simp [execOp,Oper.upon,go_sem,Act.eval,hdep,r5];exact hK _ bz0))
    iterate 7 (· exact .inr ⟨(by simp [Region.wanted,yielded,hdep];done),rfl⟩)
    iterate 2 (· first | (refine .inl ⟨(by first | rfl | (simp [Region.wanted,yielded,hdep];done)),fun K hK=>?_⟩;unfold Oper.wp;simp [execOp,Oper.upon,go_sem,Act.eval,hdep];exact hK _ bz0) | (refine .inl ⟨rfl,fun K hK=>?_⟩;unfold Oper.wp;simp [execOp,Oper.upon,go_sem,Act.eval,o0,o3,r3,r4,r5,s0,s1,s2];exact hK _ bz0))
    iterate 8 (· exact .inr ⟨(by simp [Region.wanted,yielded,hdep];done),rfl⟩)
    iterate 3 (· exact .inr ⟨(by simp [Region.wanted,yielded,hdep,undef];done),rfl⟩)
    ·exact .inr ⟨(by simp [Region.wanted,yielded,hdep];done),rfl⟩
    iterate 2 (· first | (refine .inl ⟨(by first | rfl | (simp [Region.wanted,yielded,hdep];done)),fun K hK=>?_⟩;unfold Oper.wp;simp [execOp,Oper.upon,go_sem,Act.eval,hdep];exact hK _ bz0) | (refine .inl ⟨rfl,fun K hK=>?_⟩;unfold Oper.wp;simp [execOp,Oper.upon,go_sem,Act.eval,o0,o3,r3,r4,r5,s0,s1,s2];exact hK _ bz0))
   rintro V3 hV3
   have BV3:=Lib.hid hV3
   clear hV3
   go_wp2
   go_ret
   exact ⟨rfl,btr (btr BV.out BV2.out rfl) BV3.out rfl⟩
  ·rcases h2 with h2 | rfl | ⟨h2,-⟩
   ·cases h2
   ·have hee : (e == e) = true:=beq_self_eq_true e
    go_enter Tryz.func326,Tryz.ntmps326
    go_wp2_with fail
    refine grow_region 11 (slotG 5 11 0) (fun jj=>(#[.pointer (some ⟨w.heap.size,2,none⟩),.bool false,.bool false,undef,undef,undef,undef,undef,undef,undef,.bool false] : Array Value)[jj]?.getD undef) (tm:=#[.pointer (some ⟨b,0,none⟩),.agg #[.int .i64 off,.string s,.bool false],undef,.pointer (some ⟨w.heap.size,0,none⟩),.bool false,.pointer (some ⟨w.heap.size,2,none⟩),.bool false,.bool false,undef,undef,undef,undef,undef,undef,undef,.bool false,undef,undef,undef,undef,undef,undef,undef,undef,undef,undef,undef,undef,undef,undef,undef,undef,undef,undef,undef,undef,undef,undef,undef,undef,undef,undef,undef,undef]) rfl (by kernel_rfl) rfl (fun i d _ h=>by have:=slotG_is h;simp;omega) (fun i j d _ _ h1 h2=>by have:=slotG_is h1;have:=slotG_is h2;omega) ?_ (by kernel_rfl) ?_
    ·rintro j o hj ho a w1 hb ⟨hold,hdep⟩
     have r3:=OLD.out _ _ hb _ _ b3
     have r4:=OLD.out _ _ hb _ _ b4
     have r5:=OLD.out _ _ hb _ _ b5
     have s0:=OLD.out _ _ hb _ _ p0
     have s1:=OLD.out _ _ hb _ _ p1
     have s2:=OLD.out _ _ hb _ _ p2
     have o0:=hold 0 (fun i hi h=>by have:=slotG_is h;omega)
     have o3:=hold 3 (fun i hi h=>by have:=slotG_is h;omega)
     simp at o0 o3
     have hjj : j = 0 ∨ j = 1 ∨ j = 2 ∨ j = 3 ∨ j = 4 ∨ j = 5 ∨ j = 6 ∨ j = 7 ∨ j = 8 ∨ j = 9 ∨ j = 10:=by omega
     rcases hjj with rfl | rfl | rfl | rfl | rfl | rfl | rfl | rfl | rfl | rfl | rfl
     all_goals (cases ho;simp [Region.binds,slotG] at hdep;refine ⟨rfl,rfl,?_⟩)
     iterate 3 (· first | (refine .inl ⟨(by first | rfl | (simp [Region.wanted,yielded,hdep];done)),fun K hK=>?_⟩;unfold Oper.wp;simp [execOp,Oper.upon,go_sem,Act.eval,o3];exact hK _ bz0) | (refine .inl ⟨rfl,fun K hK=>?_⟩;unfold Oper.wp;simp [execOp,Oper.upon,go_sem,Act.eval,o0,o3,r3,r4,r5,s0,s1,s2];exact hK _ bz0) | (refine .inl ⟨(by first | rfl | (simp [Region.wanted,yielded,hdep];done)),fun K hK=>?_⟩;unfold Oper.wp;simp [execOp,Oper.upon,go_sem,Act.eval,hdep,s2];exact hK _ bz0) | (refine .inl ⟨(by first | rfl | (simp [Region.wanted,yielded,hdep];done)),fun K hK=>?_⟩;unfold Oper.wp;simp [execOp,Oper.upon,go_sem,Act.eval,hdep];exact hK _ bz0))
     iterate 7 (· exact .inr ⟨(by simp [Region.wanted,yielded,hdep];done),rfl⟩)
     ·first | (refine .inl ⟨(by first | rfl | (simp [Region.wanted,yielded,hdep];done)),fun K hK=>?_⟩;unfold Oper.wp;simp [execOp,Oper.upon,go_sem,Act.eval,hdep];exact hK _ bz0) | (refine .inl ⟨rfl,fun K hK=>?_⟩;unfold Oper.wp;simp [execOp,Oper.upon,go_sem,Act.eval,o0,o3,r3,r4,r5,s0,s1,s2];exact hK _ bz0)
    rintro V2 hV2
    have BV2:=Lib.hid hV2
    have b3:=OLD.out _ _ hV2 _ _ b3
    have b4:=OLD.out _ _ hV2 _ _ b4
    have b5:=OLD.out _ _ hV2 _ _ b5
    have p0:=OLD.out _ _ hV2 _ _ p0
    have p1:=OLD.out _ _ hV2 _ _ p1
    have p2:=OLD.out _ _ hV2 _ _ p2
    clear hV2
    go_wp2_with fail
    refine grow_region 29 (slotG 16 28 4) (fun jj=>(#[.pointer (some ⟨b,0,none⟩),.pointer (some ⟨b,0,none⟩),.pointer (some ⟨b,5,none⟩),.bool true,.bool false,.bool false,.agg #[.int .i64 off,.string s,.bool false],.int .i64 e,.pointer (some ⟨b,0,none⟩),.pointer (some ⟨b,0,none⟩),.pointer (some ⟨b,4,none⟩),.int .i64 e,.bool true,.bool true,.bool true,undef,undef,undef,undef,undef,undef,undef,undef,undef,undef,undef,undef,.bool true,.bool true] : Array Value)[jj]?.getD undef) (tm:=#[.pointer (some ⟨b,0,none⟩),.agg #[.int .i64 off,.string s,.bool false],undef,.pointer (some ⟨w.heap.size,0,none⟩),.bool true,.pointer (some ⟨w.heap.size,2,none⟩),.bool false,.bool false,undef,undef,undef,undef,undef,undef,undef,.bool false,.pointer (some ⟨b,0,none⟩),.pointer (some ⟨b,0,none⟩),.pointer (some ⟨b,5,none⟩),.bool true,.bool false,.bool false,.agg #[.int .i64 off,.string s,.bool false],.int .i64 e,.pointer (some ⟨b,0,none⟩),.pointer (some ⟨b,0,none⟩),.pointer (some ⟨b,4,none⟩),.int .i64 e,.bool true,.bool true,.bool true,undef,undef,undef,undef,undef,undef,undef,undef,undef,undef,undef,undef,.bool true]) rfl (by kernel_rfl) rfl (fun i d _ h=>by have:=slotG_is h;simp;omega) (fun i j d _ _ h1 h2=>by have:=slotG_is h1;have:=slotG_is h2;omega) ?_ (by kernel_rfl) ?_
    ·rintro j o hj ho a w1 hb ⟨hold,hdep⟩
     have r3:=OLD.out _ _ hb _ _ b3
     have r4:=OLD.out _ _ hb _ _ b4
     have r5:=OLD.out _ _ hb _ _ b5
     have s0:=OLD.out _ _ hb _ _ p0
     have s1:=OLD.out _ _ hb _ _ p1
     have s2:=OLD.out _ _ hb _ _ p2
     have o0:=hold 0 (fun i hi h=>by have:=slotG_is h;omega)
     have o3:=hold 3 (fun i hi h=>by have:=slotG_is h;omega)
     simp at o0 o3
     have hjj : j = 0 ∨ j = 1 ∨ j = 2 ∨ j = 3 ∨ j = 4 ∨ j = 5 ∨ j = 6 ∨ j = 7 ∨ j = 8 ∨ j = 9 ∨ j = 10 ∨ j = 11 ∨ j = 12 ∨ j = 13 ∨ j = 14 ∨ j = 15 ∨ j = 16 ∨ j = 17 ∨ j = 18 ∨ j = 19 ∨ j = 20 ∨ j = 21 ∨ j = 22 ∨ j = 23 ∨ j = 24 ∨ j = 25 ∨ j = 26 ∨ j = 27 ∨ j = 28:=by omega
     rcases hjj with rfl | rfl | rfl | rfl | rfl | rfl | rfl | rfl | rfl | rfl | rfl | rfl | rfl | rfl | rfl | rfl | rfl | rfl | rfl | rfl | rfl | rfl | rfl | rfl | rfl | rfl | rfl | rfl | rfl
     all_goals (cases ho;simp [Region.binds,slotG] at hdep;refine ⟨rfl,rfl,?_⟩)
     iterate 7 (· first | (refine .inl ⟨(by first | rfl | (simp [Region.wanted,yielded,hdep];done)),fun K hK=>?_⟩;unfold Oper.wp;simp [execOp,Oper.upon,go_sem,Act.eval,o0];exact hK _ bz0) | (refine .inl ⟨rfl,fun K hK=>?_⟩;unfold Oper.wp;simp [execOp,Oper.upon,go_sem,Act.eval,o0,o3,r3,r4,r5,s0,s1,s2,hee];exact hK _ bz0) | (refine .inl ⟨(by first | rfl | (simp [Region.wanted,yielded,hdep];done)),fun K hK=>?_⟩;unfold Oper.wp;simp [execOp,Oper.upon,go_sem,Act.eval,hdep];exact hK _ bz0) | (refine .inl ⟨(by first | rfl | (simp [Region.wanted,yielded,hdep];done)),fun K hK=>?_⟩;unfold Oper.wp;simp [execOp,Oper.upon,go_sem,Act.eval,hdep,r5];exact hK _ bz0) | (refine .inl ⟨(by first | rfl | (simp [Region.wanted,yielded,hdep];done)),fun K hK=>?_⟩;unfold Oper.wp;simp [execOp,Oper.upon,go_sem,Act.eval,o3,s0,s1,s2];exact hK _ bz0))
     ·(refine .inl ⟨(by first | rfl | (simp [Region.wanted,yielded,hdep];done)),fun K hK=>?_⟩;unfold Oper.wp;simp [execOp,Oper.upon,resolve,invoke,go_sem,Act.eval,hdep];(refine (EB.out _).mono ?_;rintro e' w' ⟨rfl,hb'⟩;exact hK _ hb'))
     iterate 7 (· first | (refine .inl ⟨(by first | rfl | (simp [Region.wanted,yielded,hdep];done)),fun K hK=>?_⟩;unfold Oper.wp;simp [execOp,Oper.upon,go_sem,Act.eval,o0];exact hK _ bz0) | (refine .inl ⟨rfl,fun K hK=>?_⟩;unfold Oper.wp;simp [execOp,Oper.upon,go_sem,Act.eval,o0,o3,r3,r4,r5,s0,s1,s2,hee];exact hK _ bz0) | (refine .inl ⟨(by first | rfl | (simp [Region.wanted,yielded,hdep];done)),fun K hK=>?_⟩;unfold Oper.wp;simp [execOp,Oper.upon,go_sem,Act.eval,hdep];exact hK _ bz0) | (refine .inl ⟨(by first | rfl | (simp [Region.wanted,yielded,hdep];done)),fun K hK=>?_⟩;unfold Oper.wp;simp [execOp,Oper.upon,go_sem,Act.eval,hdep,r4];exact hK _ bz0))
     iterate 8 (· exact .inr ⟨(by simp [Region.wanted,yielded,hdep];done),rfl⟩)
     iterate 3 (· exact .inr ⟨(by simp [Region.wanted,yielded,hdep,undef];done),rfl⟩)
     ·exact .inr ⟨(by simp [Region.wanted,yielded,hdep];done),rfl⟩
     iterate 2 (· first | (refine .inl ⟨(by first | rfl | (simp [Region.wanted,yielded,hdep];done)),fun K hK=>?_⟩;unfold Oper.wp;simp [execOp,Oper.upon,go_sem,Act.eval,hdep];exact hK _ bz0) | (refine .inl ⟨rfl,fun K hK=>?_⟩;unfold Oper.wp;simp [execOp,Oper.upon,go_sem,Act.eval,o0,o3,r3,r4,r5,s0,s1,s2,hee];exact hK _ bz0))
    rintro V3 hV3
    have BV3:=Lib.hid hV3
    clear hV3
    go_wp2
    go_ret
    exact ⟨rfl,btr (btr BV.out BV2.out rfl) BV3.out rfl⟩
   ·have h2a : (e == f0) = false:=beq_eq_false_iff_ne.2 (by omega)
    have h2b : e < f0:=h2
    clear h2
    go_enter Tryz.func326,Tryz.ntmps326
    go_wp2_with fail
    refine grow_region 11 (slotG 5 11 0) (fun jj=>(#[.pointer (some ⟨w.heap.size,2,none⟩),.bool false,.bool false,undef,undef,undef,undef,undef,undef,undef,.bool false] : Array Value)[jj]?.getD undef) (tm:=#[.pointer (some ⟨b,0,none⟩),.agg #[.int .i64 off,.string s,.bool false],undef,.pointer (some ⟨w.heap.size,0,none⟩),.bool false,.pointer (some ⟨w.heap.size,2,none⟩),.bool false,.bool false,undef,undef,undef,undef,undef,undef,undef,.bool false,undef,undef,undef,undef,undef,undef,undef,undef,undef,undef,undef,undef,undef,undef,undef,undef,undef,undef,undef,undef,undef,undef,undef,undef,undef,undef,undef,undef]) rfl (by kernel_rfl) rfl (fun i d _ h=>by have:=slotG_is h;simp;omega) (fun i j d _ _ h1 h2=>by have:=slotG_is h1;have:=slotG_is h2;omega) ?_ (by kernel_rfl) ?_
    ·rintro j o hj ho a w1 hb ⟨hold,hdep⟩
     have r3:=OLD.out _ _ hb _ _ b3
     have r4:=OLD.out _ _ hb _ _ b4
     have r5:=OLD.out _ _ hb _ _ b5
     have s0:=OLD.out _ _ hb _ _ p0
     have s1:=OLD.out _ _ hb _ _ p1
     have s2:=OLD.out _ _ hb _ _ p2
     have o0:=hold 0 (fun i hi h=>by have:=slotG_is h;omega)
     have o3:=hold 3 (fun i hi h=>by have:=slotG_is h;omega)
     simp at o0 o3
     have hjj : j = 0 ∨ j = 1 ∨ j = 2 ∨ j = 3 ∨ j = 4 ∨ j = 5 ∨ j = 6 ∨ j = 7 ∨ j = 8 ∨ j = 9 ∨ j = 10:=by omega
     rcases hjj with rfl | rfl | rfl | rfl | rfl | rfl | rfl | rfl | rfl | rfl | rfl
     all_goals (cases ho;simp [Region.binds,slotG] at hdep;refine ⟨rfl,rfl,?_⟩)
     iterate 3 (· first | (refine .inl ⟨(by first | rfl | (simp [Region.wanted,yielded,hdep];done)),fun K hK=>?_⟩;unfold Oper.wp;simp [execOp,Oper.upon,go_sem,Act.eval,o3];exact hK _ bz0) | (refine .inl ⟨rfl,fun K hK=>?_⟩;unfold Oper.wp;simp [execOp,Oper.upon,go_sem,Act.eval,o0,o3,r3,r4,r5,s0,s1,s2];exact hK _ bz0) | (refine .inl ⟨(by first | rfl | (simp [Region.wanted,yielded,hdep];done)),fun K hK=>?_⟩;unfold Oper.wp;simp [execOp,Oper.upon,go_sem,Act.eval,hdep,s2];exact hK _ bz0) | (refine .inl ⟨(by first | rfl | (simp [Region.wanted,yielded,hdep];done)),fun K hK=>?_⟩;unfold Oper.wp;simp [execOp,Oper.upon,go_sem,Act.eval,hdep];exact hK _ bz0))
     iterate 7 (· exact .inr ⟨(by simp [Region.wanted,yielded,hdep];done),rfl⟩)
     ·first | (refine .inl ⟨(by first | rfl | (simp [Region.wanted,yielded,hdep];done)),fun K hK=>?_⟩;unfold Oper.wp;simp [execOp,Oper.upon,go_sem,Act.eval,hdep];exact hK _ bz0) | (refine .inl ⟨rfl,fun K hK=>?_⟩;unfold Oper.wp;simp [execOp,Oper.upon,go_sem,Act.eval,o0,o3,r3,r4,r5,s0,s1,s2];exact hK _ bz0)
    rintro V2 hV2
    have BV2:=Lib.hid hV2
    have b3:=OLD.out _ _ hV2 _ _ b3
    have b4:=OLD.out _ _ hV2 _ _ b4
    have b5:=OLD.out _ _ hV2 _ _ b5
    have p0:=OLD.out _ _ hV2 _ _ p0
    have p1:=OLD.out _ _ hV2 _ _ p1
    have p2:=OLD.out _ _ hV2 _ _ p2
    clear hV2
    go_wp2_with fail
    refine grow_region 29 (slotG 16 28 4) (fun jj=>(#[.pointer (some ⟨b,0,none⟩),.pointer (some ⟨b,0,none⟩),.pointer (some ⟨b,5,none⟩),.bool true,.bool false,.bool false,.agg #[.int .i64 off,.string s,.bool false],.int .i64 e,.pointer (some ⟨b,0,none⟩),.pointer (some ⟨b,0,none⟩),.pointer (some ⟨b,4,none⟩),.int .i64 f0,.bool false,.bool false,.bool false,.agg #[.int .i64 off,.string s,.bool false],.int .i64 e,.pointer (some ⟨b,0,none⟩),.pointer (some ⟨b,0,none⟩),.pointer (some ⟨b,4,none⟩),.int .i64 f0,.bool true,.bool true,.pointer (some ⟨w.heap.size,2,none⟩),.bool false,.bool true,.bool true,.bool true,.bool true] : Array Value)[jj]?.getD undef) (tm:=#[.pointer (some ⟨b,0,none⟩),.agg #[.int .i64 off,.string s,.bool false],undef,.pointer (some ⟨w.heap.size,0,none⟩),.bool true,.pointer (some ⟨w.heap.size,2,none⟩),.bool false,.bool false,undef,undef,undef,undef,undef,undef,undef,.bool false,.pointer (some ⟨b,0,none⟩),.pointer (some ⟨b,0,none⟩),.pointer (some ⟨b,5,none⟩),.bool true,.bool false,.bool false,.agg #[.int .i64 off,.string s,.bool false],.int .i64 e,.pointer (some ⟨b,0,none⟩),.pointer (some ⟨b,0,none⟩),.pointer (some ⟨b,4,none⟩),.int .i64 f0,.bool false,.bool false,.bool false,.agg #[.int .i64 off,.string s,.bool false],.int .i64 e,.pointer (some ⟨b,0,none⟩),.pointer (some ⟨b,0,none⟩),.pointer (some ⟨b,4,none⟩),.int .i64 f0,.bool true,.bool true,.pointer (some ⟨w.heap.size,2,none⟩),.bool false,.bool true,.bool true,.bool true]) rfl (by kernel_rfl) rfl (fun i d _ h=>by have:=slotG_is h;simp;omega) (fun i j d _ _ h1 h2=>by have:=slotG_is h1;have:=slotG_is h2;omega) ?_ (by kernel_rfl) ?_
    ·rintro j o hj ho a w1 hb ⟨hold,hdep⟩
     have r3:=OLD.out _ _ hb _ _ b3
     have r4:=OLD.out _ _ hb _ _ b4
     have r5:=OLD.out _ _ hb _ _ b5
     have s0:=OLD.out _ _ hb _ _ p0
     have s1:=OLD.out _ _ hb _ _ p1
     have s2:=OLD.out _ _ hb _ _ p2
     have o0:=hold 0 (fun i hi h=>by have:=slotG_is h;omega)
     have o3:=hold 3 (fun i hi h=>by have:=slotG_is h;omega)
     simp at o0 o3
     have hjj : j = 0 ∨ j = 1 ∨ j = 2 ∨ j = 3 ∨ j = 4 ∨ j = 5 ∨ j = 6 ∨ j = 7 ∨ j = 8 ∨ j = 9 ∨ j = 10 ∨ j = 11 ∨ j = 12 ∨ j = 13 ∨ j = 14 ∨ j = 15 ∨ j = 16 ∨ j = 17 ∨ j = 18 ∨ j = 19 ∨ j = 20 ∨ j = 21 ∨ j = 22 ∨ j = 23 ∨ j = 24 ∨ j = 25 ∨ j = 26 ∨ j = 27 ∨ j = 28:=by omega
     rcases hjj with rfl | rfl | rfl | rfl | rfl | rfl | rfl | rfl | rfl | rfl | rfl | rfl | rfl | rfl | rfl | rfl | rfl | rfl | rfl | rfl | rfl | rfl | rfl | rfl | rfl | rfl | rfl | rfl | rfl
     all_goals (cases ho;simp [Region.binds,slotG] at hdep;refine ⟨rfl,rfl,?_⟩)
     iterate 7 (· first | (refine .inl ⟨(by first | rfl | (simp [Region.wanted,yielded,hdep];done)),fun K hK=>?_⟩;unfold Oper.wp;simp [execOp,Oper.upon,go_sem,Act.eval,o0];exact hK _ bz0) | (refine .inl ⟨rfl,fun K hK=>?_⟩;unfold Oper.wp;simp [execOp,Oper.upon,go_sem,Act.eval,o0,o3,r3,r4,r5,s0,s1,s2,h2a,h2b];exact hK _ bz0) | (refine .inl ⟨(by first | rfl | (simp [Region.wanted,yielded,hdep];done)),fun K hK=>?_⟩;unfold Oper.wp;simp [execOp,Oper.upon,go_sem,Act.eval,hdep];exact hK _ bz0) | (refine .inl ⟨(by first | rfl | (simp [Region.wanted,yielded,hdep];done)),fun K hK=>?_⟩;unfold Oper.wp;simp [execOp,Oper.upon,go_sem,Act.eval,hdep,r5];exact hK _ bz0) | (refine .inl ⟨(by first | rfl | (simp [Region.wanted,yielded,hdep];done)),fun K hK=>?_⟩;unfold Oper.wp;simp [execOp,Oper.upon,go_sem,Act.eval,o3,s0,s1,s2];exact hK _ bz0))
     ·(refine .inl ⟨(by first | rfl | (simp [Region.wanted,yielded,hdep];done)),fun K hK=>?_⟩;unfold Oper.wp;simp [execOp,Oper.upon,resolve,invoke,go_sem,Act.eval,hdep];(refine (EB.out _).mono ?_;rintro e' w' ⟨rfl,hb'⟩;exact hK _ hb'))
     iterate 8 (· first | (refine .inl ⟨(by first | rfl | (simp [Region.wanted,yielded,hdep];done)),fun K hK=>?_⟩;unfold Oper.wp;simp [execOp,Oper.upon,go_sem,Act.eval,o0];exact hK _ bz0) | (refine .inl ⟨rfl,fun K hK=>?_⟩;unfold Oper.wp;simp [execOp,Oper.upon,go_sem,Act.eval,o0,o3,r3,r4,r5,s0,s1,s2,h2a,h2b];exact hK _ bz0) | (refine .inl ⟨(by first | rfl | (simp [Region.wanted,yielded,hdep];done)),fun K hK=>?_⟩;unfold Oper.wp;simp [execOp,Oper.upon,go_sem,Act.eval,hdep];exact hK _ bz0) | (refine .inl ⟨(by first | rfl | (simp [Region.wanted,yielded,hdep];done)),fun K hK=>?_⟩;unfold Oper.wp;simp [execOp,Oper.upon,go_sem,Act.eval,hdep,r4];exact hK _ bz0) | (refine .inl ⟨(by first | rfl | (simp [Region.wanted,yielded,hdep];done)),fun K hK=>?_⟩;unfold Oper.wp;simp [execOp,Oper.upon,go_sem,Act.eval,hdep,h2a];exact hK _ bz0) | (refine .inl ⟨(by first | rfl | (simp [Region.wanted,yielded,hdep];done)),fun K hK=>?_⟩;unfold Oper.wp;simp [execOp,Oper.upon,go_sem,Act.eval,o3,s0,s1,s2];exact hK _ bz0))
     ·(refine .inl ⟨(by first | rfl | (simp [Region.wanted,yielded,hdep];done)),fun K hK=>?_⟩;unfold Oper.wp;simp [execOp,Oper.upon,resolve,invoke,go_sem,Act.eval,hdep];(refine (EB.out _).mono ?_;rintro e' w' ⟨rfl,hb'⟩;exact hK _ hb'))
     iterate 12 (· first | (refine .inl ⟨(by first | rfl | (simp [Region.wanted,yielded,hdep];done)),fun K hK=>?_⟩;unfold Oper.wp;simp [execOp,Oper.upon,go_sem,Act.eval,o0];exact hK _ bz0) | (refine .inl ⟨rfl,fun K hK=>?_⟩;unfold Oper.wp;simp [execOp,Oper.upon,go_sem,Act.eval,o0,o3,r3,r4,r5,s0,s1,s2,h2a,h2b];exact hK _ bz0) | (refine .inl ⟨(by first | rfl | (simp [Region.wanted,yielded,hdep];done)),fun K hK=>?_⟩;unfold Oper.wp;simp [execOp,Oper.upon,go_sem,Act.eval,hdep];exact hK _ bz0) | (refine .inl ⟨(by first | rfl | (simp [Region.wanted,yielded,hdep];done)),fun K hK=>?_⟩;unfold Oper.wp;simp [execOp,Oper.upon,go_sem,Act.eval,hdep,r4];exact hK _ bz0) | (refine .inl ⟨(by first | rfl | (simp [Region.wanted,yielded,hdep];done)),fun K hK=>?_⟩;unfold Oper.wp;simp [execOp,Oper.upon,go_sem,Act.eval,hdep,h2b];exact hK _ bz0) | (refine .inl ⟨(by first | rfl | (simp [Region.wanted,yielded,hdep];done)),fun K hK=>?_⟩;unfold Oper.wp;simp [execOp,Oper.upon,go_sem,Act.eval,o3];exact hK _ bz0) | (refine .inl ⟨(by first | rfl | (simp [Region.wanted,yielded,hdep];done)),fun K hK=>?_⟩;unfold Oper.wp;simp [execOp,Oper.upon,go_sem,Act.eval,hdep,s2];exact hK _ bz0))
    rintro V3 hV3
    have BV3:=Lib.hid hV3
    clear hV3
    go_wp2
    go_ret
    exact ⟨rfl,btr (btr BV.out BV2.out rfl) BV3.out rfl⟩
 ·have h1b : (e < hi) = False:=eq_false (by have:=h1 rfl;omega)
  clear h1
  cases kn
  ·clear h2
   go_enter Tryz.func326,Tryz.ntmps326
   go_wp2_with fail
   refine grow_region 11 (slotG 5 11 0) (fun jj=>(#[.pointer (some ⟨w.heap.size,2,none⟩),.bool true,.bool true,.agg #[.int .i64 off,.string s,.bool true],.int .i64 e,.pointer (some ⟨b,0,none⟩),.pointer (some ⟨b,0,none⟩),.pointer (some ⟨b,3,none⟩),.int .i64 hi,.bool false,.bool false] : Array Value)[jj]?.getD undef) (tm:=#[.pointer (some ⟨b,0,none⟩),.agg #[.int .i64 off,.string s,.bool true],undef,.pointer (some ⟨w.heap.size,0,none⟩),.bool false,.pointer (some ⟨w.heap.size,2,none⟩),.bool true,.bool true,.agg #[.int .i64 off,.string s,.bool true],.int .i64 e,.pointer (some ⟨b,0,none⟩),.pointer (some ⟨b,0,none⟩),.pointer (some ⟨b,3,none⟩),.int .i64 hi,.bool false,.bool false,undef,undef,undef,undef,undef,undef,undef,undef,undef,undef,undef,undef,undef,undef,undef,undef,undef,undef,undef,undef,undef,undef,undef,undef,undef,undef,undef,undef]) rfl (by kernel_rfl) rfl (fun i d _ h=>by have:=slotG_is h;simp;omega) (fun i j d _ _ h1 h2=>by have:=slotG_is h1;have:=slotG_is h2;omega) ?_ (by kernel_rfl) ?_
   ·rintro j o hj ho a w1 hb ⟨hold,hdep⟩
    have r3:=OLD.out _ _ hb _ _ b3
    have r4:=OLD.out _ _ hb _ _ b4
    have r5:=OLD.out _ _ hb _ _ b5
    have s0:=OLD.out _ _ hb _ _ p0
    have s1:=OLD.out _ _ hb _ _ p1
    have s2:=OLD.out _ _ hb _ _ p2
    have o0:=hold 0 (fun i hi h=>by have:=slotG_is h;omega)
    have o3:=hold 3 (fun i hi h=>by have:=slotG_is h;omega)
    simp at o0 o3
    have hjj : j = 0 ∨ j = 1 ∨ j = 2 ∨ j = 3 ∨ j = 4 ∨ j = 5 ∨ j = 6 ∨ j = 7 ∨ j = 8 ∨ j = 9 ∨ j = 10:=by omega
    rcases hjj with rfl | rfl | rfl | rfl | rfl | rfl | rfl | rfl | rfl | rfl | rfl
    all_goals (cases ho;simp [Region.binds,slotG] at hdep;refine ⟨rfl,rfl,?_⟩)
    iterate 4 (· first | (refine .inl ⟨(by first | rfl | (simp [Region.wanted,yielded,hdep];done)),fun K hK=>?_⟩;unfold Oper.wp;simp [execOp,Oper.upon,go_sem,Act.eval,o3];exact hK _ bz0) | (refine .inl ⟨rfl,fun K hK=>?_⟩;unfold Oper.wp;simp [execOp,Oper.upon,go_sem,Act.eval,o0,o3,r3,r4,r5,s0,s1,s2,h1b];exact hK _ bz0) | (refine .inl ⟨(by first | rfl | (simp [Region.wanted,yielded,hdep];done)),fun K hK=>?_⟩;unfold Oper.wp;simp [execOp,Oper.upon,go_sem,Act.eval,hdep,s2];exact hK _ bz0) | (refine .inl ⟨(by first | rfl | (simp [Region.wanted,yielded,hdep];done)),fun K hK=>?_⟩;unfold Oper.wp;simp [execOp,Oper.upon,go_sem,Act.eval,hdep];exact hK _ bz0) | (refine .inl ⟨(by first | rfl | (simp [Region.wanted,yielded,hdep];done)),fun K hK=>?_⟩;unfold Oper.wp;simp [execOp,Oper.upon,go_sem,Act.eval,o3,s0,s1,s2];exact hK _ bz0))
    ·(refine .inl ⟨(by first | rfl | (simp [Region.wanted,yielded,hdep];done)),fun K hK=>?_⟩;unfold Oper.wp;simp [execOp,Oper.upon,resolve,invoke,go_sem,Act.eval,hdep];(refine (EB.out _).mono ?_;rintro e' w' ⟨rfl,hb'⟩;exact hK _ hb'))
    iterate 6 (· first | (refine .inl ⟨(by first | rfl | (simp [Region.wanted,yielded,hdep];done)),fun K hK=>?_⟩;unfold Oper.wp;simp [execOp,Oper.upon,go_sem,Act.eval,o0];exact hK _ bz0) | (refine .inl ⟨rfl,fun K hK=>?_⟩;unfold Oper.wp;simp [execOp,Oper.upon,go_sem,Act.eval,o0,o3,r3,r4,r5,s0,s1,s2,h1b];exact hK _ bz0) | (refine .inl ⟨(by first | rfl | (simp [Region.wanted,yielded,hdep];done)),fun K hK=>?_⟩;unfold Oper.wp;simp [execOp,Oper.upon,go_sem,Act.eval,hdep];exact hK _ bz0) | (refine .inl ⟨(by first | rfl | (simp [Region.wanted,yielded,hdep];done)),fun K hK=>?_⟩;unfold Oper.wp;simp [execOp,Oper.upon,go_sem,Act.eval,hdep,r3];exact hK _ bz0) | (refine .inl ⟨(by first | rfl | (simp [Region.wanted,yielded,hdep];done)),fun K hK=>?_⟩;unfold Oper.wp;simp [execOp,Oper.upon,go_sem,Act.eval,hdep,h1b];exact hK _ bz0))
   rintro V2 hV2
   have BV2:=Lib.hid hV2
   have b3:=OLD.out _ _ hV2 _ _ b3
   have b4:=OLD.out _ _ hV2 _ _ b4
   have b5:=OLD.out _ _ hV2 _ _ b5
   have p0:=OLD.out _ _ hV2 _ _ p0
   have p1:=OLD.out _ _ hV2 _ _ p1
   have p2:=OLD.out _ _ hV2 _ _ p2
   clear hV2
   go_wp2_with fail
   refine grow_region 29 (slotG 16 28 4) (fun jj=>(#[.pointer (some ⟨b,0,none⟩),.pointer (some ⟨b,0,none⟩),.pointer (some ⟨b,5,none⟩),.bool false,.bool true,.bool true,undef,undef,undef,undef,undef,undef,undef,.bool true,.bool true,undef,undef,undef,undef,undef,undef,undef,undef,undef,undef,undef,undef,.bool true,.bool true] : Array Value)[jj]?.getD undef) (tm:=#[.pointer (some ⟨b,0,none⟩),.agg #[.int .i64 off,.string s,.bool true],undef,.pointer (some ⟨w.heap.size,0,none⟩),.bool true,.pointer (some ⟨w.heap.size,2,none⟩),.bool true,.bool true,.agg #[.int .i64 off,.string s,.bool true],.int .i64 e,.pointer (some ⟨b,0,none⟩),.pointer (some ⟨b,0,none⟩),.pointer (some ⟨b,3,none⟩),.int .i64 hi,.bool false,.bool false,.pointer (some ⟨b,0,none⟩),.pointer (some ⟨b,0,none⟩),.pointer (some ⟨b,5,none⟩),.bool false,.bool true,.bool true,undef,undef,undef,undef,undef,undef,undef,.bool true,.bool true,undef,undef,undef,undef,undef,undef,undef,undef,undef,undef,undef,undef,.bool true]) rfl (by kernel_rfl) rfl (fun i d _ h=>by have:=slotG_is h;simp;omega) (fun i j d _ _ h1 h2=>by have:=slotG_is h1;have:=slotG_is h2;omega) ?_ (by kernel_rfl) ?_
   ·rintro j o hj ho a w1 hb ⟨hold,hdep⟩
    have r3:=OLD.out _ _ hb _ _ b3
    have r4:=OLD.out _ _ hb _ _ b4
    have r5:=OLD.out _ _ hb _ _ b5
    have s0:=OLD.out _ _ hb _ _ p0
    have s1:=OLD.out _ _ hb _ _ p1
    have s2:=OLD.out _ _ hb _ _ p2
    have o0:=hold 0 (fun i hi h=>by have:=slotG_is h;omega)
    have o3:=hold 3 (fun i hi h=>by have:=slotG_is h;omega)
    simp at o0 o3
    have hjj : j = 0 ∨ j = 1 ∨ j = 2 ∨ j = 3 ∨ j = 4 ∨ j = 5 ∨ j = 6 ∨ j = 7 ∨ j = 8 ∨ j = 9 ∨ j = 10 ∨ j = 11 ∨ j = 12 ∨ j = 13 ∨ j = 14 ∨ j = 15 ∨ j = 16 ∨ j = 17 ∨ j = 18 ∨ j = 19 ∨ j = 20 ∨ j = 21 ∨ j = 22 ∨ j = 23 ∨ j = 24 ∨ j = 25 ∨ j = 26 ∨ j = 27 ∨ j = 28:=by omega
    rcases hjj with rfl | rfl | rfl | rfl | rfl | rfl | rfl | rfl | rfl | rfl | rfl | rfl | rfl | rfl | rfl | rfl | rfl | rfl | rfl | rfl | rfl | rfl | rfl | rfl | rfl | rfl | rfl | rfl | rfl
    all_goals (cases ho;simp [Region.binds,slotG] at hdep;refine ⟨rfl,rfl,?_⟩)
    iterate 6 (· first | (refine .inl ⟨(by first | rfl | (simp [Region.wanted,yielded,hdep];done)),fun K hK=>?_⟩;unfold Oper.wp;simp [execOp,Oper.upon,go_sem,Act.eval,o0];exact hK _ bz0) | (refine .inl ⟨rfl,fun K hK=>?_⟩;unfold Oper.wp;simp [execOp,Oper.upon,go_sem,Act.eval,o0,o3,r3,r4,r5,s0,s1,s2];exact hK _ bz0) | (refine .inl ⟨(by first | rfl | (simp [Region.wanted,yielded,hdep];done)),fun K hK=>?_⟩;unfold Oper.wp;simp [execOp,Oper.upon,go_sem,Act.eval,hdep];exact hK _ bz0) | (refine .inl ⟨(by first | rfl | (simp [Region.wanted,yielded,hdep];done)),fun K hK=>?_⟩;unfold Oper.wp;simp [execOp,Oper.upon,go_sem,Act.eval,hdep,r5];exact hK _ bz0))
    iterate 7 (· exact .inr ⟨(by simp [Region.wanted,yielded,hdep];done),rfl⟩)
    iterate 2 (· first | (refine .inl ⟨(by first | rfl | (simp [Region.wanted,yielded,hdep];done)),fun K hK=>?_⟩;unfold Oper.wp;simp [execOp,Oper.upon,go_sem,Act.eval,hdep];exact hK _ bz0) | (refine .inl ⟨rfl,fun K hK=>?_⟩;unfold Oper.wp;simp [execOp,Oper.upon,go_sem,Act.eval,o0,o3,r3,r4,r5,s0,s1,s2];exact hK _ bz0))
    iterate 8 (· exact .inr ⟨(by simp [Region.wanted,yielded,hdep];done),rfl⟩)
    iterate 3 (· exact .inr ⟨(by simp [Region.wanted,yielded,hdep,undef];done),rfl⟩)
    ·exact .inr ⟨(by simp [Region.wanted,yielded,hdep];done),rfl⟩
    iterate 2 (· first | (refine .inl ⟨(by first | rfl | (simp [Region.wanted,yielded,hdep];done)),fun K hK=>?_⟩;unfold Oper.wp;simp [execOp,Oper.upon,go_sem,Act.eval,hdep];exact hK _ bz0) | (refine .inl ⟨rfl,fun K hK=>?_⟩;unfold Oper.wp;simp [execOp,Oper.upon,go_sem,Act.eval,o0,o3,r3,r4,r5,s0,s1,s2];exact hK _ bz0))
   rintro V3 hV3
   have BV3:=Lib.hid hV3
   clear hV3
   go_wp2
   go_ret
   exact ⟨rfl,btr (btr BV.out BV2.out rfl) BV3.out rfl⟩
  ·rcases h2 with h2 | rfl | ⟨_,h2⟩
   ·cases h2
   ·have hee : (e == e) = true:=beq_self_eq_true e
    go_enter Tryz.func326,Tryz.ntmps326
    go_wp2_with fail
    refine grow_region 11 (slotG 5 11 0) (fun jj=>(#[.pointer (some ⟨w.heap.size,2,none⟩),.bool true,.bool true,.agg #[.int .i64 off,.string s,.bool true],.int .i64 e,.pointer (some ⟨b,0,none⟩),.pointer (some ⟨b,0,none⟩),.pointer (some ⟨b,3,none⟩),.int .i64 hi,.bool false,.bool false] : Array Value)[jj]?.getD undef) (tm:=#[.pointer (some ⟨b,0,none⟩),.agg #[.int .i64 off,.string s,.bool true],undef,.pointer (some ⟨w.heap.size,0,none⟩),.bool false,.pointer (some ⟨w.heap.size,2,none⟩),.bool true,.bool true,.agg #[.int .i64 off,.string s,.bool true],.int .i64 e,.pointer (some ⟨b,0,none⟩),.pointer (some ⟨b,0,none⟩),.pointer (some ⟨b,3,none⟩),.int .i64 hi,.bool false,.bool false,undef,undef,undef,undef,undef,undef,undef,undef,undef,undef,undef,undef,undef,undef,undef,undef,undef,undef,undef,undef,undef,undef,undef,undef,undef,undef,undef,undef]) rfl (by kernel_rfl) rfl (fun i d _ h=>by have:=slotG_is h;simp;omega) (fun i j d _ _ h1 h2=>by have:=slotG_is h1;have:=slotG_is h2;omega) ?_ (by kernel_rfl) ?_
    ·rintro j o hj ho a w1 hb ⟨hold,hdep⟩
     have r3:=OLD.out _ _ hb _ _ b3
     have r4:=OLD.out _ _ hb _ _ b4
     have r5:=OLD.out _ _ hb _ _ b5
     have s0:=OLD.out _ _ hb _ _ p0
     have s1:=OLD.out _ _ hb _ _ p1
     have s2:=OLD.out _ _ hb _ _ p2
     have o0:=hold 0 (fun i hi h=>by have:=slotG_is h;omega)
     have o3:=hold 3 (fun i hi h=>by have:=slotG_is h;omega)
     simp at o0 o3
     have hjj : j = 0 ∨ j = 1 ∨ j = 2 ∨ j = 3 ∨ j = 4 ∨ j = 5 ∨ j = 6 ∨ j = 7 ∨ j = 8 ∨ j = 9 ∨ j = 10:=by omega
     rcases hjj with rfl | rfl | rfl | rfl | rfl | rfl | rfl | rfl | rfl | rfl | rfl
     all_goals (cases ho;simp [Region.binds,slotG] at hdep;refine ⟨rfl,rfl,?_⟩)
     iterate 4 (· first | (refine .inl ⟨(by first | rfl | (simp [Region.wanted,yielded,hdep];done)),fun K hK=>?_⟩;unfold Oper.wp;simp [execOp,Oper.upon,go_sem,Act.eval,o3];exact hK _ bz0) | (refine .inl ⟨rfl,fun K hK=>?_⟩;unfold Oper.wp;simp [execOp,Oper.upon,go_sem,Act.eval,o0,o3,r3,r4,r5,s0,s1,s2,h1b];exact hK _ bz0) | (refine .inl ⟨(by first | rfl | (simp [Region.wanted,yielded,hdep];done)),fun K hK=>?_⟩;unfold Oper.wp;simp [execOp,Oper.upon,go_sem,Act.eval,hdep,s2];exact hK _ bz0) | (refine .inl ⟨(by first | rfl | (simp [Region.wanted,yielded,hdep];done)),fun K hK=>?_⟩;unfold Oper.wp;simp [execOp,Oper.upon,go_sem,Act.eval,hdep];exact hK _ bz0) | (refine .inl ⟨(by first | rfl | (simp [Region.wanted,yielded,hdep];done)),fun K hK=>?_⟩;unfold Oper.wp;simp [execOp,Oper.upon,go_sem,Act.eval,o3,s0,s1,s2];exact hK _ bz0))
     ·(refine .inl ⟨(by first | rfl | (simp [Region.wanted,yielded,hdep];done)),fun K hK=>?_⟩;unfold Oper.wp;simp [execOp,Oper.upon,resolve,invoke,go_sem,Act.eval,hdep];(refine (EB.out _).mono ?_;rintro e' w' ⟨rfl,hb'⟩;exact hK _ hb'))
     iterate 6 (· first | (refine .inl ⟨(by first | rfl | (simp [Region.wanted,yielded,hdep];done)),fun K hK=>?_⟩;unfold Oper.wp;simp [execOp,Oper.upon,go_sem,Act.eval,o0];exact hK _ bz0) | (refine .inl ⟨rfl,fun K hK=>?_⟩;unfold Oper.wp;simp [execOp,Oper.upon,go_sem,Act.eval,o0,o3,r3,r4,r5,s0,s1,s2,h1b];exact hK _ bz0) | (refine .inl ⟨(by first | rfl | (simp [Region.wanted,yielded,hdep];done)),fun K hK=>?_⟩;unfold Oper.wp;simp [execOp,Oper.upon,go_sem,Act.eval,hdep];exact hK _ bz0) | (refine .inl ⟨(by first | rfl | (simp [Region.wanted,yielded,hdep];done)),fun K hK=>?_⟩;unfold Oper.wp;simp [execOp,Oper.upon,go_sem,Act.eval,hdep,r3];exact hK _ bz0) | (refine .inl ⟨(by first | rfl | (simp [Region.wanted,yielded,hdep];done)),fun K hK=>?_⟩;unfold Oper.wp;simp [execOp,Oper.upon,go_sem,Act.eval,hdep,h1b];exact hK _ bz0))
    rintro V2 hV2
    have BV2:=Lib.hid hV2
    have b3:=OLD.out _ _ hV2 _ _ b3
    have b4:=OLD.out _ _ hV2 _ _ b4
    have b5:=OLD.out _ _ hV2 _ _ b5
    have p0:=OLD.out _ _ hV2 _ _ p0
    have p1:=OLD.out _ _ hV2 _ _ p1
    have p2:=OLD.out _ _ hV2 _ _ p2
    clear hV2
    go_wp2_with fail
    refine grow_region 29 (slotG 16 28 4) (fun jj=>(#[.pointer (some ⟨b,0,none⟩),.pointer (some ⟨b,0,none⟩),.pointer (some ⟨b,5,none⟩),.bool true,.bool false,.bool false,.agg #[.int .i64 off,.string s,.bool true],.int .i64 e,.pointer (some ⟨b,0,none⟩),.pointer (some ⟨b,0,none⟩),.pointer (some ⟨b,4,none⟩),.int .i64 e,.bool true,.bool true,.bool true,undef,undef,undef,undef,undef,undef,undef,undef,undef,undef,undef,undef,.bool true,.bool true] : Array Value)[jj]?.getD undef) (tm:=#[.pointer (some ⟨b,0,none⟩),.agg #[.int .i64 off,.string s,.bool true],undef,.pointer (some ⟨w.heap.size,0,none⟩),.bool true,.pointer (some ⟨w.heap.size,2,none⟩),.bool true,.bool true,.agg #[.int .i64 off,.string s,.bool true],.int .i64 e,.pointer (some ⟨b,0,none⟩),.pointer (some ⟨b,0,none⟩),.pointer (some ⟨b,3,none⟩),.int .i64 hi,.bool false,.bool false,.pointer (some ⟨b,0,none⟩),.pointer (some ⟨b,0,none⟩),.pointer (some ⟨b,5,none⟩),.bool true,.bool false,.bool false,.agg #[.int .i64 off,.string s,.bool true],.int .i64 e,.pointer (some ⟨b,0,none⟩),.pointer (some ⟨b,0,none⟩),.pointer (some ⟨b,4,none⟩),.int .i64 e,.bool true,.bool true,.bool true,undef,undef,undef,undef,undef,undef,undef,undef,undef,undef,undef,undef,.bool true]) rfl (by kernel_rfl) rfl (fun i d _ h=>by have:=slotG_is h;simp;omega) (fun i j d _ _ h1 h2=>by have:=slotG_is h1;have:=slotG_is h2;omega) ?_ (by kernel_rfl) ?_
    ·rintro j o hj ho a w1 hb ⟨hold,hdep⟩
     have r3:=OLD.out _ _ hb _ _ b3
     have r4:=OLD.out _ _ hb _ _ b4
     have r5:=OLD.out _ _ hb _ _ b5
     have s0:=OLD.out _ _ hb _ _ p0
     have s1:=OLD.out _ _ hb _ _ p1
     have s2:=OLD.out _ _ hb _ _ p2
     have o0:=hold 0 (fun i hi h=>by have:=slotG_is h;omega)
     have o3:=hold 3 (fun i hi h=>by have:=slotG_is h;omega)
     simp at o0 o3
     have hjj : j = 0 ∨ j = 1 ∨ j = 2 ∨ j = 3 ∨ j = 4 ∨ j = 5 ∨ j = 6 ∨ j = 7 ∨ j = 8 ∨ j = 9 ∨ j = 10 ∨ j = 11 ∨ j = 12 ∨ j = 13 ∨ j = 14 ∨ j = 15 ∨ j = 16 ∨ j = 17 ∨ j = 18 ∨ j = 19 ∨ j = 20 ∨ j = 21 ∨ j = 22 ∨ j = 23 ∨ j = 24 ∨ j = 25 ∨ j = 26 ∨ j = 27 ∨ j = 28:=by omega
     rcases hjj with rfl | rfl | rfl | rfl | rfl | rfl | rfl | rfl | rfl | rfl | rfl | rfl | rfl | rfl | rfl | rfl | rfl | rfl | rfl | rfl | rfl | rfl | rfl | rfl | rfl | rfl | rfl | rfl | rfl
     all_goals (cases ho;simp [Region.binds,slotG] at hdep;refine ⟨rfl,rfl,?_⟩)
     iterate 7 (· first | (refine .inl ⟨(by first | rfl | (simp [Region.wanted,yielded,hdep];done)),fun K hK=>?_⟩;unfold Oper.wp;simp [execOp,Oper.upon,go_sem,Act.eval,o0];exact hK _ bz0) | (refine .inl ⟨rfl,fun K hK=>?_⟩;unfold Oper.wp;simp [execOp,Oper.upon,go_sem,Act.eval,o0,o3,r3,r4,r5,s0,s1,s2,hee];exact hK _ bz0) | (refine .inl ⟨(by first | rfl | (simp [Region.wanted,yielded,hdep];done)),fun K hK=>?_⟩;unfold Oper.wp;simp [execOp,Oper.upon,go_sem,Act.eval,hdep];exact hK _ bz0) | (refine .inl ⟨(by first | rfl | (simp [Region.wanted,yielded,hdep];done)),fun K hK=>?_⟩;unfold Oper.wp;simp [execOp,Oper.upon,go_sem,Act.eval,hdep,r5];exact hK _ bz0) | (refine .inl ⟨(by first | rfl | (simp [Region.wanted,yielded,hdep];done)),fun K hK=>?_⟩;unfold Oper.wp;simp [execOp,Oper.upon,go_sem,Act.eval,o3,s0,s1,s2];exact hK _ bz0))
     ·(refine .inl ⟨(by first | rfl | (simp [Region.wanted,yielded,hdep];done)),fun K hK=>?_⟩;unfold Oper.wp;simp [execOp,Oper.upon,resolve,invoke,go_sem,Act.eval,hdep];(refine (EB.out _).mono ?_;rintro e' w' ⟨rfl,hb'⟩;exact hK _ hb'))
     iterate 7 (· first | (refine .inl ⟨(by first | rfl | (simp [Region.wanted,yielded,hdep];done)),fun K hK=>?_⟩;unfold Oper.wp;simp [execOp,Oper.upon,go_sem,Act.eval,o0];exact hK _ bz0) | (refine .inl ⟨rfl,fun K hK=>?_⟩;unfold Oper.wp;simp [execOp,Oper.upon,go_sem,Act.eval,o0,o3,r3,r4,r5,s0,s1,s2,hee];exact hK _ bz0) | (refine .inl ⟨(by first | rfl | (simp [Region.wanted,yielded,hdep];done)),fun K hK=>?_⟩;unfold Oper.wp;simp [execOp,Oper.upon,go_sem,Act.eval,hdep];exact hK _ bz0) | (refine .inl ⟨(by first | rfl | (simp [Region.wanted,yielded,hdep];done)),fun K hK=>?_⟩;unfold Oper.wp;simp [execOp,Oper.upon,go_sem,Act.eval,hdep,r4];exact hK _ bz0))
     iterate 8 (· exact .inr ⟨(by simp [Region.wanted,yielded,hdep];done),rfl⟩)
     iterate 3 (· exact .inr ⟨(by simp [Region.wanted,yielded,hdep,undef];done),rfl⟩)
     ·exact .inr ⟨(by simp [Region.wanted,yielded,hdep];done),rfl⟩
     iterate 2 (· first | (refine .inl ⟨(by first | rfl | (simp [Region.wanted,yielded,hdep];done)),fun K hK=>?_⟩;unfold Oper.wp;simp [execOp,Oper.upon,go_sem,Act.eval,hdep];exact hK _ bz0) | (refine .inl ⟨rfl,fun K hK=>?_⟩;unfold Oper.wp;simp [execOp,Oper.upon,go_sem,Act.eval,o0,o3,r3,r4,r5,s0,s1,s2,hee];exact hK _ bz0))
    rintro V3 hV3
    have BV3:=Lib.hid hV3
    clear hV3
    go_wp2
    go_ret
    exact ⟨rfl,btr (btr BV.out BV2.out rfl) BV3.out rfl⟩
   ·cases h2
end
end Go.Proofs.YthckbmcmdcemkaaGreatDoor.rea
