/- Texts of this claim, one behind the other: Oj Ok Om Pb Pc Pe Pa Pg Pi. -/
import Derived.Test.YthckbmcmdcemkaaGreatDoorBs33
import Derived.Test.YthckbmcmdcemkaaGreatDoorBs31
import Derived.Test.YthckbmcmdcemkaaGreatDoorBs32
import Derived.Test.YthckbmcmdcemkaaGreatDoorBs1
set_option maxRecDepth 100000
set_option maxHeartbeats 16000000
set_option linter.unusedSimpArgs false
set_option linter.unusedVariables false
namespace Go.Proofs.YthckbmcmdcemkaaGreatDoor.stm
section
open Go.RowKit Go.Shelf
theorem concat_any (gb g k m1 m2 c1 c2 c : Nat) (xs1 xs2 : List Value) (w : World) (hgb : w.heap[gb]? = some (.cells #[.slice (some ⟨g,k,none⟩) m1 c1,.slice (some ⟨g,0,none⟩) m2 c2] 140 (0,0)))
  (l1 : xs1.length = m1) (l2 : xs2.length = m2) (hm1 : m1 ≤ 100000) (hm2 : m2 ≤ 100000) (e1 : ∀ (j : Nat) u,xs1[j]? = some u → w.cell? ⟨g,k + j,none⟩ = some u) (e2 : ∀ (j : Nat) u,xs2[j]? = some u → w.cell? ⟨g,j,none⟩ = some u) (hg : g < w.heap.size) (o1 : ∀ u ∈ xs1,u.oneCell' = true) (o2 : ∀ u ∈ xs2,u.oneCell' = true) :
  Calls Tryz.prog 134 #[.slice (some ⟨gb,0,none⟩) 2 c] w fun e w'=>∃ v,e = .returned v ∧ Below w.heap.size w w' ∧ w'.ownsRow w.heap.size 121 1 v (m1 + m2) (xs1 ++ xs2):=by
 have a0 : w.cell? ⟨gb,0,none⟩ = some (.slice (some ⟨g,k,none⟩) m1 c1):=at_whole hgb 0 rfl
 have a1 : w.cell? ⟨gb,1,none⟩ = some (.slice (some ⟨g,0,none⟩) m2 c2):=at_whole hgb 1 rfl
 have GN:=Lib.hid (grow_nil (m1 + m2) (by omega) w)
 have i1 : IntKind.i64.wrap ((m1 : Int)) = m1:=IntWalk.i64_in _ (by omega)
 have i2 : IntKind.i64.wrap ((m1 : Int) + m2) = ((m1 + m2 : Nat) : Int):=by rw [IntWalk.i64_in _ (by omega)];simp
 have p1 : ¬ ((m1 : Int) < 0):=by omega
 have p2 : ¬ (((m1 + m2 : Nat) : Int) < 0):=by omega
 have HH:=Lib.hid (And.intro hgb (And.intro e1 (And.intro e2 (And.intro hg (And.intro o1 (And.intro o2 (And.intro l1 l2)))))))
 clear hgb e1 e2 hg o1 o2 l1 l2
 go_enter Tryz.func134,Tryz.ntmps134
 go_wp2_with fail
 refine wp_loop_rounds 3 ?_
 rw [rounds_succ]
 go_wp2_with fail
 rw [rounds_succ]
 go_wp2_with fail
 rw [rounds_succ]
 clear a0 a1
 obtain ⟨i0,hi,hz,hz1,hz2⟩:=info_parts info121
 go_wp2_with (go_at_call 206;refine GN.out.mono ?_;rintro e w1 ⟨v0,rfl,hb,hr⟩;have B1:=Lib.hid (And.intro hb hr);clear hb hr)
 have K1 : Hid (w1.heap[gb]? = some (.cells #[.slice (some ⟨g,k,none⟩) m1 c1,.slice (some ⟨g,0,none⟩) m2 c2] 140 (0,0)) ∧ (∀ (j : Nat) u,xs1[j]? = some u → w1.cell? ((⟨g,k,none⟩ : Addr).add j) = some u) ∧ ∀ (j : Nat) u,xs2[j]? = some u → w1.cell? ((⟨g,0,none⟩ : Addr).add j) = some u):=Lib.hid ⟨heap_below B1.out.1 HH.out.1,fun j u h=>by rw [add_plain];exact (B1.out.1.cell (p:=⟨g,k + j,none⟩) HH.out.2.2.2.1).trans (HH.out.2.1 j u h),fun j u h=>by rw [add_plain,Nat.zero_add];exact (B1.out.1.cell (p:=⟨g,j,none⟩) HH.out.2.2.2.1).trans (HH.out.2.2.1 j u h)⟩
 have a0 : w1.cell? ⟨gb,0,none⟩ = some (.slice (some ⟨g,k,none⟩) m1 c1):=at_whole K1.out.1 0 rfl
 have hw1:=B1.out.1.size
 refine wp_loop_rounds 3 ?_
 rw [rounds_succ]
 go_upto_region 13 with fail
 go_upto_region 14 with (refine wpList_append_own _ rfl _ _ 140 rfl w.heap.size 121 i0 (.pointer none) 1 8 Tryz.underlying140 hi hz hz1 hz2 rfl (by decide) _ _ _ rfl B1.out.2 ⟨g,k,none⟩ m1 c1 xs1 rfl (by rw [Nat.mul_one];exact HH.out.2.2.2.2.2.2.1) K1.out.2.1 HH.out.2.2.2.2.1 (by unfold maxLen;omega) (by omega) (by omega) ?_;intro v2 w2 hown hg2 hnil2;have hb2 : Below w.heap.size w w2:=B1.out.1.grown hg2 hw1 (fun k e=>(B1.out.2.lt k e).1);have R2:=Lib.hid (And.intro hown hb2);clear hown hg2 hnil2 hb2)
 have K2 : Hid (w2.heap[gb]? = some (.cells #[.slice (some ⟨g,k,none⟩) m1 c1,.slice (some ⟨g,0,none⟩) m2 c2] 140 (0,0)) ∧ ∀ (j : Nat) u,xs2[j]? = some u → w2.cell? ((⟨g,0,none⟩ : Addr).add j) = some u):=Lib.hid ⟨heap_below R2.out.2 HH.out.1,fun j u h=>by rw [add_plain,Nat.zero_add];exact (R2.out.2.cell (p:=⟨g,j,none⟩) HH.out.2.2.2.1).trans (HH.out.2.2.1 j u h)⟩
 have a1 : w2.cell? ⟨gb,1,none⟩ = some (.slice (some ⟨g,0,none⟩) m2 c2):=at_whole K2.out.1 1 rfl
 have hw2:=R2.out.2.size
 clear a0
 go_wp2_with fail
 rw [rounds_succ]
 go_upto_region 13 with fail
 go_wp2_with (refine wpList_append_own _ rfl _ _ 140 rfl w.heap.size 121 i0 (.pointer none) 1 8 Tryz.underlying140 hi hz hz1 hz2 rfl (by decide) _ _ _ rfl R2.out.1 ⟨g,0,none⟩ m2 c2 xs2 rfl (by rw [Nat.mul_one];exact HH.out.2.2.2.2.2.2.2) K2.out.2 HH.out.2.2.2.2.2.1 (by unfold maxLen;omega) (by omega) (by omega) ?_;intro v3 w3 hown hg3 hnil3;have hb3 : Below w.heap.size w w3:=R2.out.2.grown hg3 hw2 (fun k e=>(R2.out.1.lt k e).1);have R3:=Lib.hid (And.intro hown hb3);clear hown hg3 hnil3 hb3)
 rw [rounds_succ]
 go_wp2_with fail
 go_ret
 exact ⟨v3,rfl,R3.out.2,by have:=R3.out.1;rwa [Nat.zero_add,List.nil_append] at this⟩
end
section
open Go.RowKit Go.Shelf
theorem concat_nil (gb c : Nat) (w : World) (hgb : w.heap[gb]? = some (.cells #[.slice none 0 0,.slice none 0 0] 140 (0,0))) :
  Calls Tryz.prog 134 #[.slice (some ⟨gb,0,none⟩) 2 c] w fun e w'=>∃ v,e = .returned v ∧ Below w.heap.size w w' ∧ w'.ownsRow w.heap.size 121 1 v 0 []:=by
 have a0 : w.cell? ⟨gb,0,none⟩ = some (.slice none 0 0):=at_whole hgb 0 rfl
 have a1 : w.cell? ⟨gb,1,none⟩ = some (.slice none 0 0):=at_whole hgb 1 rfl
 have GN:=Lib.hid (Any8.slices_Grow_room Tryz.growS none 0 0 0 w (by omega) (by omega) (by omega) (by omega))
 clear hgb
 go_enter Tryz.func134,Tryz.ntmps134
 go_wp2_with fail
 refine wp_loop_rounds 3 ?_
 rw [rounds_succ]
 go_wp2_with fail
 rw [rounds_succ]
 go_wp2_with fail
 rw [rounds_succ]
 go_wp2_with (go_at_call 206;refine GN.out.mono ?_;rintro e w1 ⟨rfl,rfl⟩)
 refine wp_loop_rounds 3 ?_
 rw [rounds_succ]
 go_wp2_with fail
 rw [rounds_succ]
 go_wp2_with fail
 rw [rounds_succ]
 go_wp2_with fail
 go_ret
 exact ⟨_,rfl,Below.refl _ _,⟨by simp,.inl ⟨rfl,rfl⟩⟩⟩
end
def cycE (l : List Ent) (srv : Int) : List Ent:=l.dropWhile (fun p=>decide ((p.1 : Int) ≤ srv)) ++ l.takeWhile (fun p=>decide ((p.1 : Int) ≤ srv))
def cycK (l : List Ent) (srv : Int) : Nat:=l.findIdx (fun p=>!decide ((p.1 : Int) ≤ srv))
theorem cycK_le (l : List Ent) (srv : Int) : cycK l srv ≤ l.length:=List.findIdx_le_length
theorem cycK_lt {l : List Ent} {srv : Int} {j : Nat} (h : j < cycK l srv) (hj : j < l.length) : ((l[j]'hj).1 : Int) ≤ srv:=by
 have:=List.not_of_lt_findIdx h
 simpa using this
theorem cycK_at {l : List Ent} {srv : Int} (h : cycK l srv < l.length) : ¬ ((l[cycK l srv]'h).1 : Int) ≤ srv:=by
 have:=List.findIdx_getElem (w:=h)
 simp at this
 unfold cycK
 omega
theorem cycE_eq (l : List Ent) (srv : Int) : cycE l srv = l.drop (cycK l srv) ++ l.take (cycK l srv):=by
 unfold cycE cycK
 rw [List.dropWhile_eq_drop_findIdx_not,List.takeWhile_eq_take_findIdx_not]
theorem cycF_ids (l : List Ent) (srv : Int) : (cycE l srv).map (·.1) = cycF (l.map (·.1)) srv:=by
 unfold cycE cycF
 rw [List.map_append,List.dropWhile_map,List.takeWhile_map]
 rfl
section
open frm (FrV)
structure BatM (m : Int) (b : Bat) : Prop where
 le : (b.fs.length : Int) + b.lf ≤ m
 lo : (b.fs = [] ∧ b.lf = m) ∨ 0 ≤ b.lf
section
variable {m : Int} {b : Bat} {f : Fr} {d : Bool}
theorem BatM.new (m : Int) : BatM m ⟨[],m⟩:=⟨by simp,.inl ⟨rfl,rfl⟩⟩
theorem BatM.add (h : BatM m b) : BatM m (b.add f):=by
 have h1:=szF_pos f
 have h2:=h.le
 unfold Bat.add Bat.fits
 split
 ·rename_i hf
  have hf:=of_decide_eq_true hf
  exact ⟨by simp;omega,.inr (by simp only;omega)⟩
 ·exact h
theorem BatM.pend (h : BatM m b) : BatM m (pendB d b f):=by
 unfold pendB
 split
 ·exact h.add
 ·exact h
theorem BatM.ok (h : BatM m b) (h0 : -80000 ≤ m) (h1 : m ≤ 80000) : b.Ok ∧ b.fs.length ≤ 80000:=by
 have h2:=h.le
 rcases h.lo with ⟨h3,h4⟩ | h3
 ·rw [h3] at h2 ⊢
  exact ⟨⟨by omega,by omega,by rw [h3];simp⟩,by simp⟩
 ·exact ⟨⟨by omega,by omega,by omega⟩,by omega⟩
theorem BatM.ite {q : Bool} (h : BatM m b) : BatM m (if q then b.add f else b):=by
 split
 ·exact h.add
 ·exact h
end
structure OGood (o : OutP) : Prop where
 r0 : 0 ≤ o.rw ∧ o.rw ≤ 1073741823
 ok : o.cr.Ok
 rp : RepOk o.cr
 su : (o.X.sent : Int) ≤ o.cr.used
structure SGood (x : Strm) : Prop where
 o : ∀ o,x.out = some o → OGood o
 i : ∀ i,x.inp = some i → 0 ≤ i.sw ∧ i.sw ≤ 1073741823
structure FGood (p : SetP) : Prop where
 st : ∀ x ∈ p.ss,SGood x
 g0 : p.g0.Ok
 g1 : p.g1.Ok
 o0 : 0 ≤ p.g0.olim ∧ p.g0.olim ≤ 4611686018427387903
 o1 : 0 ≤ p.g1.olim ∧ p.g1.olim ≤ 4611686018427387903
 ok : p.cr.Ok
 rp : RepOk p.cr
 ln : p.ss.length ≤ 5000
section
variable {m : Int} {b : Bat} {x : Strm} {p : SetP}
theorem SGood.ok (h : SGood x) : StrOk x:=⟨fun o ho=>by
 have h1:=h.o o ho
 have h2:=h1.ok.um;have h3:=h1.ok.mm;have h4:=h1.su
 unfold maxOff at h3
 exact ⟨h1.r0.1,h1.r0.2,by omega⟩,h.i⟩
theorem clP_keep (p : SetP) (b : Bat) : (clP p b).1.ss = p.ss ∧ (clP p b).1.cr = p.cr ∧ (clP p b).1.g0.Ok = p.g0.Ok ∧ (clP p b).1.g1.Ok = p.g1.Ok ∧ (clP p b).1.g0.olim = p.g0.olim ∧ (clP p b).1.g1.olim = p.g1.olim:=by
 unfold clP
 dsimp only
 split
 ·exact ⟨rfl,rfl,rfl,rfl,rfl,rfl⟩
 ·split <;> exact ⟨rfl,rfl,rfl,rfl,rfl,rfl⟩
theorem FGood.cl (h : FGood p) (b : Bat) : FGood (clP p b).1:=by
 obtain ⟨h1,h2,h3,h4,h5,h6⟩:=clP_keep p b
 exact ⟨by rw [h1];exact h.st,by rw [h3];exact h.g0,by rw [h4];exact h.g1,by rw [h5];exact h.o0,by rw [h6];exact h.o1,by rw [h2];exact h.ok,by rw [h2];exact h.rp,by rw [h1];exact h.ln⟩
theorem BatM.cl (h : BatM m b) : BatM m (clP p b).2.1:=by
 unfold clP
 dsimp only
 split
 ·exact h.pend
 ·split
  ·exact h.pend.pend
  ·exact h.pend.pend.pend
theorem ctlI_sw (id : Int) (i : InP) (b : Bat) : (ctlI id i b).1.sw = i.sw:=by
 unfold ctlI
 dsimp only
 split
 ·rfl
 ·split <;> rfl
theorem BatM.ctlI {id : Int} {i : InP} (h : BatM m b) : BatM m (stm.ctlI id i b).2.1:=by
 unfold stm.ctlI
 dsimp only
 split
 ·exact h.pend
 ·split
  ·exact h.pend
  ·exact h.pend.pend
theorem SGood.ctlIx (h : SGood x) (b : Bat) : SGood (ctlIx x b).1 ∧ (ctlIx x b).1.id = x.id:=by
 unfold stm.ctlIx
 split
 ·exact ⟨h,rfl⟩
 ·rename_i i hi
  exact ⟨⟨h.o,fun j hj=>by cases hj;rw [ctlI_sw];exact h.i i hi⟩,rfl⟩
theorem BatM.ctlIx (h : BatM m b) : BatM m (stm.ctlIx x b).2.1:=by
 unfold stm.ctlIx
 split
 ·exact h
 ·exact h.ctlI
theorem SGood.ctlX (h : SGood x) (b : Bat) : SGood (ctlX x b).1 ∧ (ctlX x b).1.id = x.id:=by
 unfold stm.ctlX
 split
 ·exact h.ctlIx b
 ·rename_i o ho
  have h1:=h.o o ho
  have hs : SGood { x with out:=some (ctlO x.id o b).1 }:=⟨fun q hq=>by cases hq;exact ⟨h1.r0,h1.ok,h1.rp,h1.su⟩,h.i⟩
  simp only
  split
  ·exact ⟨hs,rfl⟩
  ·exact hs.ctlIx _
theorem BatM.ctlX (h : BatM m b) : BatM m (stm.ctlX x b).2.1:=by
 unfold stm.ctlX
 split
 ·exact h.ctlIx
 ·simp only
  split
  ·exact h.pend
  ·exact BatM.ctlIx h.pend
theorem ctlL_len : ∀ (l : List Strm) (b : Bat),(ctlL l b).1.map (·.id) = l.map (·.id)
 | [],_=>rfl
 | x :: t,b=>by
  have h1 : (stm.ctlX x b).1.id = x.id:=by
   unfold stm.ctlX stm.ctlIx
   split
   ·split <;> rfl
   ·simp only
    split
    ·rfl
    ·split <;> rfl
  unfold ctlL
  split
  ·simp [h1,ctlL_len t]
  ·simp [h1]
theorem SGood.blX (h : SGood x) (b : Bat) : SGood (blX x b).1:=by
 unfold stm.blX
 split
 ·exact h
 ·rename_i o ho
  split
  ·have h1:=h.o o ho
   exact ⟨fun q hq=>by
    cases hq
    refine ⟨h1.r0,h1.ok.bl,h1.rp.bl h1.ok,?_⟩
    show (o.X.sent : Int) ≤ o.cr.bl.used
    unfold Snd.bl
    split <;> exact h1.su,h.i⟩
  ·exact h
theorem BatM.blX (h : BatM m b) : BatM m (stm.blX x b).2:=by
 unfold stm.blX
 split
 ·exact h
 ·split
  ·exact h.ite
  ·exact h
theorem SGood.blL : ∀ {l : List Strm} (b : Bat),(∀ x ∈ l,SGood x) → ∀ x ∈ (blL l b).1,SGood x
 | [],_,_,x,hx=>by cases hx
 | y :: t,b,h,x,hx=>by
  have hx : x ∈ (stm.blX y b).1 :: (stm.blL t (stm.blX y b).2).1:=hx
  rcases List.mem_cons.1 hx with rfl | hx
  ·exact (h y (by simp)).blX b
  ·exact SGood.blL _ (fun z hz=>h z (by simp [hz])) x hx
theorem BatM.blL : ∀ {l : List Strm} {b : Bat},BatM m b → BatM m (stm.blL l b).2
 | [],_,h=>h
 | y :: t,b,h=>BatM.blL (l:=t) h.blX
theorem blL_len : ∀ (l : List Strm) (b : Bat),(blL l b).1.length = l.length
 | [],_=>rfl
 | y :: t,b=>by show (_ :: _).length = _;rw [List.length_cons,blL_len t];rfl
theorem FGood.bl (h : FGood p) (b : Bat) : FGood (blP p b).1:=by
 have e0 : ∀ (p : SetP) (b : Bat),FGood p → FGood (bl0 p b).1:=fun p b h=>by
  unfold bl0
  split
  ·exact ⟨h.st,h.g0,h.g1,h.o0,h.o1,h.ok,h.rp,h.ln⟩
  ·exact h
 have e1 : ∀ (p : SetP) (b : Bat),FGood p → FGood (bl1 p b).1:=fun p b h=>by
  unfold bl1
  split
  ·exact ⟨h.st,h.g0,h.g1,h.o0,h.o1,h.ok,h.rp,h.ln⟩
  ·exact h
 have e2 : ∀ (p : SetP) (b : Bat),FGood p → FGood (bl2 p b).1:=fun p b h=>by
  unfold bl2
  split
  ·exact ⟨h.st,h.g0,h.g1,h.o0,h.o1,h.ok.bl,h.rp.bl h.ok,h.ln⟩
  ·exact h
 unfold blP
 have h3:=e2 _ (bl1 (bl0 p b).1 (bl0 p b).2).2 (e1 _ (bl0 p b).2 (e0 p b h))
 exact ⟨fun x hx=>SGood.blL _ h3.st x hx,h3.g0,h3.g1,h3.o0,h3.o1,h3.ok,h3.rp,by simp only [blL_len];exact h3.ln⟩
theorem BatM.bl (h : BatM m b) : BatM m (blP p b).2:=by
 have e0 : ∀ (p : SetP) (b : Bat),BatM m b → BatM m (bl0 p b).2:=fun p b h=>by
  unfold bl0
  split
  ·exact h.add
  ·exact h
 have e1 : ∀ (p : SetP) (b : Bat),BatM m b → BatM m (bl1 p b).2:=fun p b h=>by
  unfold bl1
  split
  ·exact h.add
  ·exact h
 have e2 : ∀ (p : SetP) (b : Bat),BatM m b → BatM m (bl2 p b).2:=fun p b h=>by
  unfold bl2
  split
  ·exact h.ite
  ·exact h
 unfold blP
 exact BatM.blL (e2 _ _ (e1 _ _ (e0 p b h)))
theorem mem_updS {l : List Strm} {id : Nat} {y x : Strm} (hx : x ∈ updS l id y) : x = y ∨ x ∈ l:=by
 unfold updS at hx
 obtain ⟨z,hz,rfl⟩:=List.mem_map.1 hx
 split
 ·exact .inl rfl
 ·exact .inr hz
theorem FGood.srvX (h : FGood p) {x : Strm} (hx : SGood x) (hX : ∀ o,x.out = some o → o.X.Ok) : FGood (srvX p x b).1:=by
 unfold stm.srvX
 split
 ·exact h
 ·rename_i o ho
  split
  ·rename_i ha
   rw [Bool.and_eq_true] at ha
   split
   ·exact h
   ·rename_i q hq
    have h1:=hx.o o ho
    have hs:=srv_ok (hX o ho) h.ok h1.ok (of_decide_eq_true ha.2) hq
    have k0:=hs.n0;have k1:=hs.nc;have k2:=hs.no
    have j1:=h.ok.u0;have j2:=h.ok.um;have j3:=h.ok.mm
    have i1:=h1.ok.u0;have i2:=h1.ok.um;have i3:=h1.ok.mm;have i4:=h1.su
    unfold Snd.av at k1 k2
    refine ⟨fun y hy=>?_,h.g0,h.g1,h.o0,h.o1,⟨by simp only;omega,by simp only;omega,h.ok.mm⟩,h.rp,by simp only [updS,List.length_map];exact h.ln⟩
    rcases mem_updS hy with rfl | hy
    ·refine ⟨fun r hr=>?_,hx.i⟩
     cases hr
     refine ⟨h1.r0,⟨by show 0 ≤ o.cr.used + srvN o q;omega,by show o.cr.used + srvN o q ≤ o.cr.most;omega,i3⟩,h1.rp,?_⟩
     show ((o.X.frame q.1 q.2).sent : Int) ≤ o.cr.used + srvN o q
     have e : srvN o q = ((o.X.frame q.1 q.2).sent : Int) - o.X.sent:=rfl
     omega
    ·exact h.st y hy
  ·exact h
theorem BatM.srvX {x : Strm} (h : BatM m b) : BatM m (srvX p x b).2.1:=by
 unfold stm.srvX
 split
 ·exact h
 ·split
  ·split
   ·exact h
   ·exact h.add
  ·exact h
theorem srvX_less {x : Strm} (h : (srvX p x b).2.2 = true) : 0 ≤ (srvX p x b).2.1.lf ∧ (srvX p x b).2.1.lf < b.lf:=by
 revert h
 unfold stm.srvX
 split
 ·intro h;cases h
 ·rename_i o ho
  split
  ·split
   ·intro h;cases h
   ·rename_i q hq
    intro h
    have hf : b.fits (srvF x.id o q) = true:=h
    have h2:=szF_pos (srvF x.id o q)
    have h3 : szF (srvF x.id o q) ≤ b.lf:=of_decide_eq_true hf
    simp only [Bat.add,hf,if_true]
    omega
  ·intro h;cases h
end
end
section
open frm (FrV)
section
variable {m : Int} {s : SetS} {b : Bat}
def ctlStep (q : SetS × Bat × Bool) (id : Nat) : SetS × Bat × Bool:=if q.2.2 then match q.1.ss.find? (fun e=>e.2.id == id) with
 | none=>q
 | some e=>({ q.1 with ss:=q.1.ss.map fun f=>if f.2.id = id then (e.1,(ctlX e.2 q.2.1).1) else f },(ctlX e.2 q.2.1).2.1,(ctlX e.2 q.2.1).2.2) else q
def ctlF (s : SetS) (b : Bat) (l : List Nat) : SetS × Bat × Bool:=l.foldl ctlStep (s,b,true)
theorem ctlF_snoc (l : List Nat) (id : Nat) : ctlF s b (l ++ [id]) = ctlStep (ctlF s b l) id:=by
 unfold ctlF;rw [List.foldl_append];rfl
theorem ctlX_id (x : Strm) (b : Bat) : (ctlX x b).1.id = x.id:=by
 unfold ctlX ctlIx
 split
 ·split <;> rfl
 ·simp only
  split
  ·rfl
  ·split <;> rfl
theorem ctlStep_at {l1 l2 : List (StA × Strm)} {xa : StA} {x : Strm} (hl : s.ss = l1 ++ (xa,x) :: l2) (h : Inc s.ss) : ctlStep (s,b,true) x.id = ({ s with ss:=l1 ++ (xa,(ctlX x b).1) :: l2 },(ctlX x b).2.1,(ctlX x b).2.2):=by
 rw [hl] at h
 unfold ctlStep
 simp only [if_true]
 rw [hl,find_at (e:=(xa,x)) h]
 simp only
 rw [map_at (e:=(xa,x)) h]
theorem ctl_stuck (q : SetS × Bat × Bool) (hq : q.2.2 = false) : ∀ l : List Nat,l.foldl ctlStep q = q
 | []=>rfl
 | x :: t=>by
  rw [List.foldl_cons]
  have : ctlStep q x = q:=by unfold ctlStep;rw [hq];rfl
  rw [this]
  exact ctl_stuck q hq t
theorem ctlF_go : ∀ (l2 l1 : List (StA × Strm)) (s : SetS) (b : Bat) (k : Nat),s.ss = l1 ++ l2 → Inc s.ss → (((l2.map (·.2.id)).take k).foldl ctlStep (s,b,true)).2.2 = false ∨ l2.length ≤ k →
  (((l2.map (·.2.id)).take k).foldl ctlStep (s,b,true)).1.pl = { s.pl with ss:=l1.map (·.2) ++ (ctlL (l2.map (·.2)) b).1 } ∧ (((l2.map (·.2.id)).take k).foldl ctlStep (s,b,true)).2 = (ctlL (l2.map (·.2)) b).2
 | [],l1,s,b,k,hl,_,_=>by
  simp only [List.map_nil,List.take_nil,List.foldl_nil,ctlL,List.append_nil]
  rw [List.append_nil] at hl
  refine ⟨?_,trivial⟩
  unfold SetS.pl
  rw [hl]
 | (xa,x) :: t,l1,s,b,0,hl,h,hk=>by
  rcases hk with hk | hk
  iterate 2 (· simp at hk)
 | (xa,x) :: t,l1,s,b,k + 1,hl,h,hk=>by
  have h1:=ctlStep_at (b:=b) hl h
  rw [List.map_cons,List.take_succ_cons,List.foldl_cons] at hk ⊢
  rw [show ctlStep (s,b,true) ((xa,x) : StA × Strm).2.id = _ from h1] at hk ⊢
  cases hc : (ctlX x b).2.2 with
  | false=>
   rw [ctl_stuck _ rfl]
   refine ⟨?_,?_⟩
   ·simp [SetS.pl,ctlL,hc]
   ·rw [List.map_cons,ctlL,if_neg (by rw [hc];decide)]
  | true=>
   rw [hc] at hk
   obtain ⟨q1,q2⟩:=ctlF_go t (l1 ++ [(xa,(ctlX x b).1)]) { s with ss:=l1 ++ (xa,(ctlX x b).1) :: t } (ctlX x b).2.1 k (by simp) (by rw [hl] at h;exact h.put (ctlX_id x b)) (hk.imp id (fun e=>by simpa using e))
   rw [q1,q2]
   refine ⟨?_,?_⟩
   ·simp [SetS.pl,ctlL,hc]
   ·rw [List.map_cons,ctlL,if_pos hc]
structure CtG (m : Int) (s3 : SetS) (s' : SetS) (b' : Bat) : Prop where
 bm : BatM m b'
 en : ents s'.ss = ents s3.ss
 inc : Inc s'.ss
 st : ∀ e ∈ s'.ss,SGood e.2
theorem CtG.put {s3 s' : SetS} {b' : Bat} {l1 l2 : List (StA × Strm)} {xa : StA} {x : Strm} (h : CtG m s3 s' b') (hl : s'.ss = l1 ++ (xa,x) :: l2) : CtG m s3 { s' with ss:=l1 ++ (xa,(ctlX x b').1) :: l2 } (ctlX x b').2.1:=by
 have h3:=h.en;have h4:=h.inc;have h5:=h.st
 rw [hl] at h3 h4 h5
 refine ⟨h.bm.ctlX,(ents_put (ctlX_id x b')).trans h3,h4.put (ctlX_id x b'),fun e he=>?_⟩
 rcases List.mem_append.1 he with c | c
 ·exact h5 e (List.mem_append_left _ c)
 ·rcases List.mem_cons.1 c with rfl | c
  ·exact ((h5 (xa,x) (by simp)).ctlX b').1
  ·exact h5 e (List.mem_append_right _ (List.mem_cons_of_mem _ c))
end
end
section
open Go.RowKit
section
variable {W w w' w2 : World} {H H' : Nat → Option Obj} {a : SetA} {s s' : SetS} {bb : Nat} {v v' : Value} {b b' : Bat} {f f' : Nat → Prop}
def isQ (o : Option Obj) : Prop:=∃ cs T,o = some (.cells cs T (0,0)) ∧ T ≠ 121
theorem isQ.mk {o : Option Obj} {cs : Array Value} {T : TypeId} (h : o = some (.cells cs T (0,0))) (hT : T ≠ 121) : isQ o:=⟨cs,T,h,hT⟩
theorem RowH.isQ {e : TypeId} {size n : Nat} {xs : List Value} (h : RowH H e size v n xs) (he : e ≠ 121) {k : Nat} (hk : v.ownBlock = some k) : isQ (H k):=by
 obtain ⟨c,hc⟩:=h.block hk;exact .mk hc he
theorem OutIn.isQ {x : OutA} {o : OutP} (h : OutIn H x o) {k : Nat} (hk : x.foot k) : isQ (H k):=by
 rcases hk with rfl | hk | rfl | hk
 ·exact .mk h.ob (by decide)
 ·obtain ⟨_,vd,vs,h1,h2,h3,h4⟩:=h.bf
  rcases (h4 k).1 hk with rfl | e | e
  ·exact .mk h1 (by decide)
  ·exact h2.isQ (by decide) e
  ·exact h3.isQ (by decide) e
 ·exact .mk h.cb (by decide)
 ·exact h.ak.isQ (by decide) hk
theorem InIn.isQ {x : InA} {i : InP} (h : InIn H x i) {k : Nat} (hk : x.foot k) : isQ (H k):=by
 rcases hk with rfl | rfl | rfl | rfl | rfl
 ·exact .mk h.ib (by decide)
 ·exact .mk h.rb (by decide)
 ·exact .mk h.h1 (by decide)
 ·exact .mk h.h2 (by decide)
 ·exact .mk h.wb (by decide)
theorem StIn.isQ {xa : StA} {x : Strm} (h : StIn H xa x) {k : Nat} (hk : xa.foot k) : isQ (H k):=by
 rcases hk with rfl | hk | hk
 ·exact .mk h.xb (by decide)
 ·have h0:=h.o
  cases ha : xa.o with
  | none=>rw [ha] at hk;exact hk.elim
  | some oa=>cases hb : x.out with
   | none=>rw [ha,hb] at h0;exact h0.elim
   | some o=>rw [ha] at hk;rw [ha,hb] at h0;exact OutIn.isQ h0 hk
 ·have h0:=h.i
  cases ha : xa.i with
  | none=>rw [ha] at hk;exact hk.elim
  | some oa=>cases hb : x.inp with
   | none=>rw [ha,hb] at h0;exact h0.elim
   | some o=>rw [ha] at hk;rw [ha,hb] at h0;exact InIn.isQ h0 hk
theorem SetIn.isQ (h : SetIn H a s) {k : Nat} (hk : s.foot a k) (hM : k ≠ a.M) : isQ (H k):=by
 rcases hk with (rfl | rfl | rfl | rfl) | ⟨e,he,hk⟩
 ·exact .mk h.sb (by decide)
 ·exact absurd rfl hM
 ·exact .mk h.cb (by decide)
 ·exact .mk h.wb (by decide)
 ·exact (h.li.all e he).isQ hk
theorem BatIn.isQ (h : BatIn H bb v b) {k : Nat} (hk : batF bb v k) : isQ (H k):=by
 rcases hk with rfl | hk
 ·exact .mk h.bb (by decide)
 ·exact h.row.isQ (by decide) hk
theorem SB.isQ (h : SB H a s bb v b) {k : Nat} (hk : sbF s a bb v k) (hM : k ≠ a.M) : isQ (H k):=by
 rcases hk with hk | hk
 ·exact h.st.isQ hk hM
 ·exact h.bt.isQ hk
theorem SB.no121 (h : SB H a s bb v b) {k : Nat} {cs : Array Value} (hk : H k = some (.cells cs 121 (0,0))) : ¬ sbF s a bb v k:=fun c=>by
 by_cases hM : k = a.M
 ·obtain ⟨mo,m1,m2,_⟩:=h.st.mp
  rw [hM,m1] at hk
  exact isC_ne' m2 _ _ _ (Option.some.inj hk)
 ·obtain ⟨ds,T,e,hT⟩:=h.isQ c hM
  rw [hk] at e
  simp at e
  exact hT e.2.symm
end
end
section
open Go.RowKit
structure RotAt (w : World) (base : Nat) (e : TypeId) (g k cap : Nat) (cur : Array Value) (xs : List Value) : Prop where
 bg : base ≤ g
 at_ : w.heap[g]? = some (.cells cur e (0,0))
 le : xs.length ≤ cap
 sz : k + cap ≤ cur.size
 mx : cap ≤ maxLen
 is : (cur.toList.drop k).take xs.length = xs
section
variable {P : Program} {w w' : World} {base : Nat} {e : TypeId} {g k cap : Nat} {cur : Array Value} {xs : List Value}
theorem RotAt.cell (h : RotAt w base e g k cap cur xs) {j : Nat} {u : Value} (hu : xs[j]? = some u) : w.cell? ⟨g,k + j,none⟩ = some u:=by
 rw [cell_of_row w g (k + j) cur e (0,0) h.at_]
 have:=h.is
 rw [← this,List.getElem?_take] at hu
 split at hu
 ·rw [List.getElem?_drop] at hu;simpa using hu
 ·cases hu
theorem RotAt.keep (h : RotAt w base e g k cap cur xs) (hb : w'.heap[g]? = w.heap[g]?) : RotAt w' base e g k cap cur xs:=⟨h.bg,hb.trans h.at_,h.le,h.sz,h.mx,h.is⟩
theorem RotAt.tail {x : Value} (h : RotAt w base e g k cap cur (x :: xs)) : RotAt w base e g (k + 1) (cap - 1) cur xs:=by
 have h1:=h.le;have h2:=h.sz;have h3:=h.mx;have h4:=h.is
 simp only [List.length_cons] at h1 h4
 refine ⟨h.bg,h.at_,by omega,by omega,by omega,?_⟩
 have : (cur.toList.drop k).take (xs.length + 1) = x :: xs:=h4
 have h5:=congrArg (List.drop 1) this
 rw [List.drop_take,List.drop_drop] at h5
 simpa [Nat.add_comm] using h5
theorem RotAt.empty (h : RotAt w base e g k cap cur xs) (j : Nat) (hj : j ≤ cur.size) : RotAt w base e g j 0 cur []:=⟨h.bg,h.at_,Nat.le_refl _,by omega,Nat.zero_le _,by simp⟩
theorem run_append_rot (t ty : TypeId) (i : TypeInfo) (z : Value) (bytes : Nat) (ht : P.underlying t = some (.slice e)) (hi : P.info? e = some i) (hz : i.zero = some z) (hsize : i.size = 1) (hby : i.bytes = bytes) (hzs : z.cells.size = 1)
  (h : RotAt w base e g k cap cur xs) (a : Addr) (c : Nat) (x : Value) (hx : w.cell? a = some x) (h1 : x.oneCell' = true) (hbytes : (xs.length + 1) * bytes ≤ 140737488355328) (h63 : xs.length + 1 ≤ maxLen) (hbase : base ≤ w.heap.size) :
  ∃ g' k' cap' cur' w',(Builtin.append_ #[t,t] ty #[.slice (some ⟨g,k,none⟩) xs.length cap,.slice (some a) 1 c]).run P w = .ok (.slice (some ⟨g',k',none⟩) (xs.length + 1) cap') w' ∧ RotAt w' base e g' k' cap' cur' (xs ++ [x]) ∧ w.grownBy w' (some g):=by
 have hnews : ∀ j u,([x] : List Value)[j]? = some u → w.cell? (a.add j) = some u:=fun j u hu=>by
  cases j with
  | zero=>cases hu;simpa [Addr.add] using hx
  | succ j=>simp at hu
 by_cases hroom : xs.length + 1 ≤ cap
 ·have hf:=run_firstCells_some (P:=P) w 1 1 a 1 c [x] (by simp) hnews
  have hst:=run_storeCells_at P g (k + xs.length) e [x] 0 cur w h.at_ (by have:=h.sz;simp;omega) (by simp [h1])
  simp only [Nat.add_zero] at hst
  refine ⟨g,k,cap,(cur.toList.take (k + xs.length) ++ [x] ++ cur.toList.drop (k + xs.length + 1)).toArray,_,?_,⟨h.bg,setRow_heap w g cur _ e _ h.at_,by simpa using hroom,?_,h.mx,?_⟩,⟨rfl,rfl,rfl,by simp,fun j _ hj=>setRow_other w g j _ (fun c=>hj (by rw [c]))⟩⟩
  ·simp [Builtin.append_,run_underlying ht,sizeOf,typeInfo,hi,hsize,Builtin.lenOf,hroom,hf,Addr.add_lit,hst]
  ·have:=h.sz
   simp;omega
  ·have h4:=h.is
   have h5:=h.sz
   have hk : (cur.toList.take (k + xs.length)).drop k = xs:=by rw [List.drop_take,show k + xs.length - k = xs.length by omega];exact h4
   have hl : k ≤ (cur.toList.take (k + xs.length)).length:=by simp;omega
   show (((cur.toList.take (k + xs.length) ++ [x]) ++ cur.toList.drop (k + xs.length + 1)).drop k).take (xs ++ [x]).length = xs ++ [x]
   rw [List.append_assoc,List.drop_append_of_le_length hl,hk,← List.append_assoc]
   exact List.take_left
 ·have holds : ∀ j u,xs[j]? = some u → w.cell? ((⟨g,k,none⟩ : Addr).add j) = some u:=fun j u hu=>by rw [Addr.add_lit];exact h.cell hu
  have hr:=run_append_grow (P:=P) w t ty e i z ht hi hz ⟨g,k,none⟩ xs.length cap xs (by simp [hsize]) holds a 1 c [x] (by simp [hsize]) hnews (by omega) (by simp only [maxLen] at h63;omega) (growslice_fits (by omega) (by rw [hby];exact hbytes))
  have hge:=grownCap_ge w (xs.length + 1) cap e
  have hcm:=grownCap_le_maxLen w (xs.length + 1) cap e h63
  refine ⟨_,0,_,_,_,hr,⟨hbase,heap_alloc_new w.drew _,by simpa using hge,?_,hcm,?_⟩,⟨rfl,rfl,rfl,by simp,fun j hj _=>heap_alloc_old w.drew _ hj⟩⟩
  ·simp only [Array.size_append,List.size_toArray,size_zeroCells,hzs,List.length_cons,List.length_nil]
   omega
  ·simp only [Array.toList_append,List.drop_zero]
   exact List.take_left
theorem wp_append_run {o : Oper} {ac : Act} {K : Act → World → Prop} {Q : Exit → Act → World → Prop} (s y : Operand) (t : TypeId) (ho : o.op = .call { callee:=.builtin .append,args:=#[s,y],argTypes:=#[t,t] }) {vs vy v' : Value} (hs : ac.eval s = vs) (hy : ac.eval y = vy)
  (hr : (Builtin.append_ #[t,t] o.type #[vs,vy]).run P w = .ok v' w') (hK : K (ac.put o.dst v') w') : o.wp P ac w K Q:=by
 unfold Oper.wp execOp
 simp only [ho,resolve,invoke,builtin,Sem.run_bind,Sem.run_pure,Result.andThen_ok,List.map_toArray,List.map_cons,List.map_nil,hs,hy,hr]
 exact hK
theorem RotAt.of_own (h : w.ownsRow base e 1 (.slice (some ⟨g,0,none⟩) xs.length cap) xs.length xs) : ∃ cur,RotAt w base e g 0 cap cur xs:=by
 rcases h.2 with ⟨h0,_⟩ | ⟨g',cap',cur,h0,h1,h2,h3,h4,h5,h6⟩
 ·cases h0
 ·cases h0
  exact ⟨cur,h1,h2,h3,by omega,h4,by simpa using h6⟩
end
end
section
open Go.RowKit
section
variable {W w w' w0 w1 w2 X Y : World} {H H' H2 : Nat → Option Obj} {a : SetA} {s s' s2 : SetS} {bb : Nat} {v v' v2 vr : Value} {b b' b2 : Bat} {n0 n2 B TB : Nat} {cB : Array Value}
theorem full_of {k : Nat} {o : Obj} (h : full W w k = some o) : W.heap.size ≤ k ∧ w.heap[k]? = some o:=by
 by_cases c : W.heap.size ≤ k
 ·exact ⟨c,by unfold full at h;rwa [if_pos c] at h⟩
 ·unfold full at h;rw [if_neg c] at h;cases h
structure FrI (W w0 : World) (H : Nat → Option Obj) (a : SetA) (s : SetS) (bb : Nat) (v : Value) (n0 n2 B : Nat) (vr : Value) (s' : SetS) (b' : Bat) (X : World) (H' : Nat → Option Obj) (v' : Value) : Prop where
 x0 : X.heap[n0]? = some (.cells #[vr] 34 (0,0))
 x2 : X.heap[n2]? = some (.cells #[.pointer (some ⟨bb,0,none⟩)] 132 (0,0))
 xB : X.heap[B]? = some (.cells #[.pointer (some ⟨a.sb,0,none⟩)] 25 (0,0))
 st : Stp W w0 X H H' a s s' bb v v' b'
 nf : ∀ k,k = n0 ∨ k = n2 ∨ k = B → ¬ sbF s' a bb v' k
theorem FrI.step (h : FrI W w0 H a s bb v n0 n2 B vr s' b' X H' v') (S : Stp W X Y H' H2 a s' s2 bb v' v2 b2) : FrI W w0 H a s bb v n0 n2 B vr s2 b2 Y H2 v2:=
 ⟨S.box h.x0 (h.nf _ (.inl rfl)),S.box h.x2 (h.nf _ (.inr (.inl rfl))),S.box h.xB (h.nf _ (.inr (.inr rfl))),h.st.trans S,
  fun k hk=>S.nf (by rcases hk with rfl | rfl | rfl;exact heap_lt h.x0;exact heap_lt h.x2;exact heap_lt h.xB) (h.nf k hk)⟩
theorem FrI.own {C : Nat} {row : Option Nat} (h : FrI W w0 H a s bb v n0 n2 B vr s' b' X H' v') (h0 : SB H a s bb v b) (hm : Mem W w0 H) (hB : w0.heap.size ≤ C) (hg : X.grownBy Y row) (hr : ∀ k,row = some k → C ≤ k ∧ ∃ o,X.heap[k]? = some o ∧ o.isCells = false) : ∃ H2,FrI W w0 H a s bb v n0 n2 B vr s' b' Y H2 v':=by
 obtain ⟨H2,S⟩:=h.st.own h0 hm hB hg hr
 have z : ∀ {k : Nat} {cs : Array Value} {T : TypeId},X.heap[k]? = some (.cells cs T (0,0)) → Y.heap[k]? = some (.cells cs T (0,0)):=fun {k cs T} e=>
  (hg.block k (heap_lt e) (fun c=>by obtain ⟨_,o,ho,hc⟩:=hr k c.symm;rw [e] at ho;cases ho;cases hc)).trans e
 exact ⟨H2,z h.x0,z h.x2,z h.xB,S,h.nf⟩
theorem FrI.keeps {C : Nat} (h : FrI W w0 H a s bb v n0 n2 B vr s' b' X H' v') (S : Stp W X Y H' H2 a s' s2 bb v' v2 b2) : KeepsFrom C X Y:=S.keeps h.st.sb h.st.mem
theorem FrI.kps {n₀ : Nat} (h : FrI W w0 H a s bb v n0 n2 B vr s' b' X H' v') (S : Stp W X Y H' H2 a s' s2 bb v' v2 b2) : KpS n₀ B a.sb a.M X Y:=S.kps h.st.sb h.st.mem h.xB (h.nf _ (.inr (.inr rfl)))
structure FuI (W w0 : World) (a : SetA) (s : SetS) (bb : Nat) (v : Value) (n0 n2 : Nat) (vr : Value) (s' : SetS) (b' : Bat) (X : World) (v' : Value) : Prop where
 be : Below W.heap.size W X
 wz : w0.heap.size ≤ n2 + 1
 sb : SB (full W X) a s' bb v' b'
 tt : To W X (full W w0) (full W X) (sbF s a bb v) (sbF s' a bb v')
 x0 : X.heap[n0]? = some (.cells #[vr] 34 (0,0))
 x2 : X.heap[n2]? = some (.cells #[.pointer (some ⟨bb,0,none⟩)] 132 (0,0))
 l0 : W.heap.size ≤ n0
 l2 : W.heap.size ≤ n2
 nf : ∀ k,k = n0 ∨ k = n2 → ¬ sbF s' a bb v' k
theorem FuI.sz (h : FuI W w0 a s bb v n0 n2 vr s' b' X v') : w0.heap.size ≤ X.heap.size:=Nat.le_trans h.wz (heap_lt h.x2)
theorem FuI.mem (h : FuI W w0 a s bb v n0 n2 vr s' b' X v') : Mem W X (full W X):=Mem.full h.be
theorem To.box {f f' : Nat → Prop} (T : To W Y (stm.full W X) H' f f') {k : Nat} {o : Obj} (hk : X.heap[k]? = some o) (hl : W.heap.size ≤ k) (hn : ¬ f k) : Y.heap[k]? = some o ∧ ¬ f' k:=by
 have h1:=T.kp k o (full_is hk hl) hn
 refine ⟨T.mem.at h1,fun c=>?_⟩
 rcases T.nw k c with c | c
 ·exact hn c
 ·rw [full_is hk hl] at c;cases c
theorem FuI.step (h : FuI W w0 a s bb v n0 n2 vr s' b' X v') (T : To W Y (full W X) H' (sbF s' a bb v') (sbF s2 a bb v2)) (S : SB H' a s2 bb v2 b2) : FuI W w0 a s bb v n0 n2 vr s2 b2 Y v2:=by
 obtain ⟨q0,f0⟩:=T.box h.x0 h.l0 (h.nf _ (.inl rfl))
 obtain ⟨q2,f2⟩:=T.box h.x2 h.l2 (h.nf _ (.inr rfl))
 exact ⟨T.mem.below,h.wz,S.full T.mem,(h.tt.trans T).full,q0,q2,h.l0,h.l2,fun k hk=>by rcases hk with rfl | rfl;exact f0;exact f2⟩
theorem FuI.turn (h : FuI W w0 a s bb v n0 n2 vr s' b' X v') {row : Option Nat} (hg : X.grownBy Y row) (hr : ∀ k,row = some k → w0.heap.size ≤ k ∧ W.heap.size ≤ k ∧ k ≠ n0 ∧ k ≠ n2 ∧ ¬ sbF s' a bb v' k) : FuI W w0 a s bb v n0 n2 vr s' b' Y v':=by
 have hb : Below W.heap.size W Y:=h.be.grown hg h.be.size (fun k e=>(hr k e).2.1)
 have hk : ∀ k o,X.heap[k]? = some o → row ≠ some k → Y.heap[k]? = some o:=fun k o e hn=>(hg.block k (heap_lt e) (fun c=>hn c.symm)).trans e
 refine ⟨hb,h.wz,h.sb.keep (fun k o hf e=>?_),⟨Mem.full hb,fun k o e hn=>?_,fun k hf=>h.tt.nw k hf⟩,hk _ _ h.x0 (fun c=>(hr _ c).2.2.1 rfl),hk _ _ h.x2 (fun c=>(hr _ c).2.2.2.1 rfl),h.l0,h.l2,h.nf⟩
 ·obtain ⟨e2,e1⟩:=full_of e
  exact full_is (hk k o e1 (fun c=>(hr k c).2.2.2.2 hf)) e2
 ·obtain ⟨e2,e1⟩:=full_of (h.tt.kp k o e hn)
  refine full_is (hk k o e1 (fun c=>?_)) e2
  have:=(hr k c).1
  have : k < w0.heap.size:=heap_lt (full_of e).2
  omega
theorem FuI.far (h : FuI W w0 a s bb v n0 n2 vr s' b' X v') {row : Option Nat} (hg : X.grownBy Y row) (hr : ∀ k,row = some k → w0.heap.size ≤ k ∧ W.heap.size ≤ k ∧ ∃ cs,X.heap[k]? = some (.cells cs 121 (0,0))) : FuI W w0 a s bb v n0 n2 vr s' b' Y v':=by
 refine h.turn hg (fun k e=>?_)
 obtain ⟨h1,h2,cs,h3⟩:=hr k e
 refine ⟨h1,h2,fun c=>?_,fun c=>?_,h.sb.no121 (full_is h3 h2)⟩
 ·subst c;rw [h.x0] at h3;simp at h3
 ·subst c;rw [h.x2] at h3;simp at h3
theorem FuI.below (h : FuI W w0 a s bb v n0 n2 vr s' b' X v') (hb : Below X.heap.size X Y) : FuI W w0 a s bb v n0 n2 vr s' b' Y v':=
 h.far (row:=none) ⟨hb.os,hb.tape,hb.output,hb.size,fun k hk _=>hb.block k hk⟩ (fun k e=>by cases e)
theorem FrI.fu (h : FrI W w0 (full W w0) a s bb v n0 n2 B vr s' b' X H' v') (l0 : W.heap.size ≤ n0) (l2 : W.heap.size ≤ n2) (wz : w0.heap.size ≤ n2 + 1) : FuI W w0 a s bb v n0 n2 vr s' b' X v':=
 ⟨h.st.mem.below,wz,h.st.sb.full h.st.mem,h.st.tt.full,h.x0,h.x2,l0,l2,fun k hk=>h.nf k (hk.imp id .inl)⟩
theorem FuI.out0 {Z : World} (h : FuI W w0 a s bb v n0 n2 vr s' b' X v') (hm : Mem W w H) (hb : Below w.heap.size w w0) (hbb : w.heap.size ≤ bb) (hv : ∀ k,v.ownBlock = some k → w.heap.size ≤ k) (hn0 : w.heap.size ≤ n0) (hZ : Below W.heap.size W Z) (hk : ∀ k o,X.heap[k]? = some o → k ≠ n0 → (k < w0.heap.size ∨ sbF s' a bb v' k) → Z.heap[k]? = some o) :
  SetIn (full W Z) a s' ∧ BatIn (full W Z) bb v' b' ∧ (∀ k,v'.ownBlock = some k → ¬ s'.foot a k) ∧ To W Z H (full W Z) (s.foot a) (fun k=>s'.foot a k ∨ v'.ownBlock = some k):=by
 have hns : ∀ k,sbF s' a bb v' k → k ≠ n0:=fun k hf e=>by rw [e] at hf;exact h.nf _ (.inl rfl) hf
 have S : SB (full W Z) a s' bb v' b':=h.sb.keep (fun k o hf e=>by
  obtain ⟨e2,e1⟩:=full_of e
  exact full_is (hk k o e1 (hns k hf) (.inr hf)) e2)
 refine ⟨S.st,S.bt,fun k hk c=>S.dj k c (.inr hk),⟨Mem.full hZ,fun k o e hn=>?_,fun k hk=>?_⟩⟩
 ·have hlt:=hm.lt e
  have hw0 : full W w0 k = some o:=full_is ((hb.block k hlt).trans (hm.at e)) (hm.far k o e).2
  obtain ⟨e2,e1⟩:=full_of (h.tt.kp k o hw0 (fun c=>by
   rcases c with c | c | c
   ·exact hn c
   ·omega
   ·have:=hv k c;omega))
  exact full_is (hk k o e1 (by omega) (.inl (Nat.lt_of_lt_of_le hlt hb.size))) e2
 ·have hsb : sbF s' a bb v' k:=hk.imp id .inr
  rcases h.tt.nw k hsb with (c | c | c) | c
  ·exact .inl c
  ·exact .inr (hm.fresh (by omega))
  ·exact .inr (hm.fresh (hv k c))
  ·refine .inr ?_
   cases e : H k with
   | none=>rfl
   | some o=>
    rw [full_is ((hb.block k (hm.lt e)).trans (hm.at e)) (hm.far k o e).2] at c
    cases c
theorem FuI.out1 (h : FuI W w0 a s bb v n0 n2 vr s' b' X v') (hm : Mem W w H) (hb : Below w.heap.size w w0) (hbb : w.heap.size ≤ bb) (hv : ∀ k,v.ownBlock = some k → w.heap.size ≤ k) (hn0 : w.heap.size ≤ n0) (y : Value) :
  ∃ H',SetIn H' a s' ∧ BatIn H' bb v' b' ∧ (∀ k,v'.ownBlock = some k → ¬ s'.foot a k) ∧ To W (X.setCell ⟨n0,0,none⟩ y) H H' (s.foot a) (fun k=>s'.foot a k ∨ v'.ownBlock = some k):=
 ⟨_,h.out0 hm hb hbb hv hn0 (h.be.setCell (p:=⟨n0,0,none⟩) h.l0 y) (fun k o e hne _=>(heap_setCell_other X _ _ _ hne).trans e)⟩
end
end
section
open Go.RowKit
section
variable {W w w' w0 w1 w2 X Y : World} {H H' H2 : Nat → Option Obj} {a : SetA} {s s' s2 : SetS} {bb : Nat} {v v' v2 vr : Value} {b b' b2 : Bat} {n0 n2 B TB : Nat} {cB : Array Value}
structure FoI (W w0 : World) (a : SetA) (s : SetS) (bb : Nat) (v : Value) (n0 : Nat) (s' : SetS) (b' : Bat) (X : World) (v' : Value) : Prop where
 be : Below W.heap.size W X
 sb : SB (full W X) a s' bb v' b'
 kp : ∀ k o,full W w0 k = some o → ¬ sbF s a bb v k → k ≠ n0 → full W X k = some o
 nw : ∀ k,sbF s' a bb v' k → sbF s a bb v k ∨ full W w0 k = none
 x0 : X.heap[n0]? = some (.cells #[v'] 34 (0,0))
 M : a.M < w0.heap.size
theorem FuI.fo (h : FuI W w0 a s bb v n0 n2 vr s' b' X v') (hM : a.M < w0.heap.size) : FoI W w0 a s bb v n0 s' b' (X.setCell ⟨n0,0,none⟩ v') v':=by
 have hko : ∀ k o,full W X k = some o → k ≠ n0 → full W (X.setCell ⟨n0,0,none⟩ v') k = some o:=fun k o e hne=>by
  obtain ⟨e2,e1⟩:=full_of e
  exact full_is ((heap_setCell_other X _ _ _ hne).trans e1) e2
 have hns : ∀ k,sbF s' a bb v' k → k ≠ n0:=fun k hf e=>by rw [e] at hf;exact h.nf _ (.inl rfl) hf
 exact ⟨h.be.setCell (p:=⟨n0,0,none⟩) h.l0 v',h.sb.keep (fun k o hf e=>hko k o e (hns k hf)),fun k o e hn hne=>hko k o (h.tt.kp k o e hn) hne,h.tt.nw,heap_setCell_same X n0 0 _ 34 v' h.x0,hM⟩
theorem FoI.own {row : Option Nat} (h : FoI W w0 a s bb v n0 s' b' X v') (hg : X.grownBy Y row) (hr : ∀ k,row = some k → w0.heap.size ≤ k ∧ W.heap.size ≤ k ∧ ∃ o,X.heap[k]? = some o ∧ o.isCells = false) : FoI W w0 a s bb v n0 s' b' Y v':=by
 have hk : ∀ k o,X.heap[k]? = some o → row ≠ some k → Y.heap[k]? = some o:=fun k o e hn=>(hg.block k (heap_lt e) (fun c=>hn c.symm)).trans e
 have hM:=h.M
 refine ⟨h.be.grown hg h.be.size (fun k e=>(hr k e).2.1),h.sb.keep (fun k o hf e=>?_),fun k o e hn hne=>?_,h.nw,hk _ _ h.x0 (fun c=>?_),h.M⟩
 ·obtain ⟨e2,e1⟩:=full_of e
  refine full_is (hk k o e1 (fun c=>?_)) e2
  obtain ⟨q1,_,o2,q2,q3⟩:=hr k c
  obtain ⟨cs,T,e3,_⟩:=h.sb.isQ hf (by omega)
  rw [(full_of e3).2] at q2;cases q2;cases q3
 ·obtain ⟨e2,e1⟩:=full_of (h.kp k o e hn hne)
  refine full_is (hk k o e1 (fun c=>?_)) e2
  have:=(hr k c).1
  have : k < w0.heap.size:=heap_lt (full_of e).2
  omega
 ·obtain ⟨_,_,o2,q2,q3⟩:=hr _ c
  rw [h.x0] at q2;cases q2;cases q3
theorem FoI.out (h : FoI W w0 a s bb v n0 s' b' X v') (hm : Mem W w H) (hb : Below w.heap.size w w0) (hbb : w.heap.size ≤ bb) (hv : ∀ k,v.ownBlock = some k → w.heap.size ≤ k) (hn0 : w.heap.size ≤ n0) :
  SetIn (full W X) a s' ∧ BatIn (full W X) bb v' b' ∧ (∀ k,v'.ownBlock = some k → ¬ s'.foot a k) ∧ To W X H (full W X) (s.foot a) (fun k=>s'.foot a k ∨ v'.ownBlock = some k):=by
 refine ⟨h.sb.st,h.sb.bt,fun k hk c=>h.sb.dj k c (.inr hk),⟨Mem.full h.be,fun k o e hn=>?_,fun k hk=>?_⟩⟩
 ·have hlt:=hm.lt e
  refine h.kp k o (full_is ((hb.block k hlt).trans (hm.at e)) (hm.far k o e).2) (fun c=>?_) (by omega)
  rcases c with c | c | c
  ·exact hn c
  ·omega
  ·have:=hv k c;omega
 ·have hsb : sbF s' a bb v' k:=hk.imp id .inr
  rcases h.nw k hsb with (c | c | c) | c
  ·exact .inl c
  ·exact .inr (hm.fresh (by omega))
  ·exact .inr (hm.fresh (hv k c))
  ·refine .inr ?_
   cases e : H k with
   | none=>rfl
   | some o=>
    rw [full_is ((hb.block k (hm.lt e)).trans (hm.at e)) (hm.far k o e).2] at c
    cases c
end
end
end Go.Proofs.YthckbmcmdcemkaaGreatDoor.stm
