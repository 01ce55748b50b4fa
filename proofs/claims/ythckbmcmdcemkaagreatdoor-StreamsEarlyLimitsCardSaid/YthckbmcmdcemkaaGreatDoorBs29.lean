/- Texts of this claim, one behind the other: Oc Oe Np Nr Ns. -/
import Derived.Test.YthckbmcmdcemkaaGreatDoorBs28
import Derived.Test.YthckbmcmdcemkaaGreatDoorBs13
import Derived.Test.YthckbmcmdcemkaaGreatDoorBs27
import Derived.Test.YthckbmcmdcemkaaGreatDoorBs25
import Derived.Test.YthckbmcmdcemkaaGreatDoorBs20
import Derived.Laws.Tables
set_option maxRecDepth 100000
set_option maxHeartbeats 16000000
set_option linter.unusedSimpArgs false
set_option linter.unusedVariables false
namespace Go.Proofs.YthckbmcmdcemkaaGreatDoor.stm
section
open Go.RowKit
open frm (FrV)
section
variable {W w w' w0 w1 w2 : World} {H H' : Nat → Option Obj} {a : SetA} {s s' : SetS} {bb : Nat} {v v' : Value} {b b' : Bat}
theorem add_stp (hm : Mem W w H) (h : SB H a s bb v b) (hk : b.Ok) (f : Fr) (hv : FrV f) : Calls Tryz.prog 130 #[ptr bb,f.val] w fun e w'=>e = .returned (.bool (b.fits f)) ∧ ∃ H' v',Stp W w w' H H' a s s bb v v' (b.add f):=by
 refine (add_any hm h.bt f hv ⟨hk.l0,hk.l1⟩ (by have:=hk.n;omega)).mono ?_
 rintro e w' ⟨rfl,H',v',t⟩
 exact ⟨rfl,H',v',t.stp h⟩
theorem SB.fresh (h : SB H a s bb v b) (hm : Mem W w0 H) {k : Nat} (hk : w0.heap.size ≤ k) : ¬ sbF s a bb v k:=fun c=>by
 obtain ⟨o,ho⟩:=h.dom c
 have:=hm.lt ho
 omega
theorem Stp.box (S : Stp W w w' H H' a s s' bb v v' b') {k : Nat} {o : Obj} (hk : w.heap[k]? = some o) (hn : ¬ sbF s a bb v k) : w'.heap[k]? = some o:=(S.chg.block k (heap_lt hk) (fun c=>hn c.1)).trans hk
theorem SB.M_lt (h : SB H a s bb v b) (hm : Mem W w H) : a.M < w.heap.size:=by
 obtain ⟨mo,m1,_⟩:=h.st.mp
 exact hm.lt m1
theorem Stp.own {B : Nat} {row : Option Nat} (S : Stp W w0 w1 H H' a s s' bb v v' b') (h0 : SB H a s bb v b) (hm : Mem W w0 H) (hB : w0.heap.size ≤ B) (hg : w1.grownBy w2 row) (hr : ∀ k,row = some k → B ≤ k ∧ ∃ o,w1.heap[k]? = some o ∧ o.isCells = false) : ∃ H2,Stp W w0 w2 H H2 a s s' bb v v' b':=by
 have hM:=h0.M_lt hm
 have hW:=hm.below.size
 have hmem : Mem W w2 (fun k=>if row = some k then none else H' k):=⟨S.mem.below.grown hg S.mem.below.size (fun k e=>by have:=(hr k e).1;omega),fun k o e=>by
  split at e
  ·cases e
  ·rename_i hne
   obtain ⟨h1,h2⟩:=S.mem.far k o e
   exact ⟨(hg.block k (heap_lt h1) (fun c=>hne c.symm)).trans h1,h2⟩⟩
 refine ⟨_,S.sb.keep (fun k o hk e=>?_),⟨hmem,fun k o e hn=>?_,S.tt.nw⟩,S.chg.trans (Chg.grownO hg (fun k e=>?_)),S.fr⟩
 ·rw [if_neg]
  ·exact e
  ·intro c
   obtain ⟨q1,o2,q2,q3⟩:=hr k c
   obtain ⟨cs,T,hc,_⟩:=S.sb.isK hk (by omega)
   rw [hc] at e;cases e
   rw [(S.mem.far k _ hc).1] at q2;cases q2
   cases q3
 ·rw [if_neg]
  ·exact S.tt.kp k o e hn
  ·intro c
   have:=(hr k c).1
   have:=hm.lt e
   omega
 ·obtain ⟨q1,o2,q2,_⟩:=hr k e
  exact .inr ⟨by omega,heap_lt q2⟩
theorem ents_split {ss : List (StA × Strm)} {p : Ent} (hp : p ∈ ents ss) : ∃ l1 xa x l2,ss = l1 ++ (xa,x) :: l2 ∧ x.id = p.1 ∧ xa.xb = p.2:=by
 unfold ents at hp
 obtain ⟨e,he,rfl⟩:=List.mem_map.1 hp
 obtain ⟨l1,l2,h⟩:=List.append_of_mem he
 exact ⟨l1,e.1,e.2,l2,h,rfl,rfl⟩
abbrev Inc (ss : List (StA × Strm)) : Prop:=ss.Pairwise fun e f=>e.2.id < f.2.id
theorem Inc.apart {l1 l2 : List (StA × Strm)} {e : StA × Strm} (h : Inc (l1 ++ e :: l2)) : (∀ f ∈ l1,f.2.id ≠ e.2.id) ∧ ∀ f ∈ l2,f.2.id ≠ e.2.id:=by
 obtain ⟨_,h2,h3⟩:=List.pairwise_append.1 h
 refine ⟨fun f hf=>?_,fun f hf=>?_⟩
 ·have:=h3 f hf e (by simp);omega
 ·have:=(List.pairwise_cons.1 h2).1 f hf;omega
theorem map_at {l1 l2 : List (StA × Strm)} {e g : StA × Strm} (h : Inc (l1 ++ e :: l2)) : (l1 ++ e :: l2).map (fun f=>if f.2.id = e.2.id then g else f) = l1 ++ g :: l2:=by
 obtain ⟨h1,h2⟩:=h.apart
 rw [List.map_append,List.map_cons,if_pos rfl]
 congr 1
 ·exact (List.map_congr_left (fun f hf=>by rw [if_neg (h1 f hf)];rfl)).trans (List.map_id _)
 ·congr 1
  exact (List.map_congr_left (fun f hf=>by rw [if_neg (h2 f hf)];rfl)).trans (List.map_id _)
theorem find_at {l1 l2 : List (StA × Strm)} {e : StA × Strm} (h : Inc (l1 ++ e :: l2)) : (l1 ++ e :: l2).find? (fun f=>f.2.id == e.2.id) = some e:=by
 obtain ⟨h1,_⟩:=h.apart
 rw [List.find?_append,List.find?_eq_none.2 (fun f hf=>by simpa using h1 f hf)]
 simp
def wt (ss : List (StA × Strm)) (id : Nat) : Bool:=ss.any fun e=>decide (e.2.id = id) && outWait e.2.out
theorem wt_at {l1 l2 : List (StA × Strm)} {e : StA × Strm} (h : Inc (l1 ++ e :: l2)) : wt (l1 ++ e :: l2) e.2.id = outWait e.2.out:=by
 obtain ⟨h1,h2⟩:=h.apart
 have z : ∀ l : List (StA × Strm),(∀ f ∈ l,f.2.id ≠ e.2.id) → (l.any fun f=>decide (f.2.id = e.2.id) && outWait f.2.out) = false:=fun l hl=>by
  rw [List.any_eq_false]
  intro f hf
  simp [hl f hf]
 unfold wt
 rw [List.any_append,List.any_cons,z _ h1,z _ h2]
 simp
theorem wt_all {ss : List (StA × Strm)} (h : Inc ss) : ((ents ss).any fun p=>wt ss p.1) = ss.any (fun e=>outWait e.2.out):=by
 unfold ents
 rw [List.any_map]
 have key : ∀ e ∈ ss,wt ss e.2.id = outWait e.2.out:=fun e he=>by
  obtain ⟨l1,l2,rfl⟩:=List.append_of_mem he
  exact wt_at h
 rw [Bool.eq_iff_iff,List.any_eq_true,List.any_eq_true]
 constructor
 ·rintro ⟨e,he,h1⟩
  exact ⟨e,he,by rw [← key e he];exact h1⟩
 ·rintro ⟨e,he,h1⟩
  exact ⟨e,he,by show wt ss e.2.id = true;rw [key e he];exact h1⟩
theorem blX_id (x : Strm) (b : Bat) : (blX x b).1.id = x.id:=by
 unfold blX
 split
 ·rfl
 ·split <;> rfl
theorem blX_len (x : Strm) (b : Bat) : (blX x b).2.fs.length ≤ b.fs.length + 1:=by
 unfold blX Bat.add
 split
 ·simp
 ·split
  ·split
   ·simp only;split <;> simp
   ·simp
  ·simp
def blStep (s : SetS) (b : Bat) (id : Nat) : SetS × Bat:=match s.ss.find? (fun e=>e.2.id == id) with
 | none=>(s,b)
 | some e=>({ s with ss:=s.ss.map fun f=>if f.2.id = id then (e.1,(blX e.2 b).1) else f },(blX e.2 b).2)
theorem blStep_at {l1 l2 : List (StA × Strm)} {xa : StA} {x : Strm} (hl : s.ss = l1 ++ (xa,x) :: l2) (h : Inc s.ss) : blStep s b x.id = ({ s with ss:=l1 ++ (xa,(blX x b).1) :: l2 },(blX x b).2):=by
 rw [hl] at h
 unfold blStep
 rw [hl,find_at (e:=(xa,x)) h]
 simp only
 rw [map_at (e:=(xa,x)) h]
def blF (s : SetS) (b : Bat) (l : List Nat) : SetS × Bat:=l.foldl (fun q id=>blStep q.1 q.2 id) (s,b)
theorem blF_snoc (l : List Nat) (id : Nat) : blF s b (l ++ [id]) = blStep (blF s b l).1 (blF s b l).2 id:=by
 unfold blF;rw [List.foldl_append];rfl
theorem ents_put {l1 l2 : List (StA × Strm)} {xa : StA} {x x' : Strm} (hx : x'.id = x.id) : ents (l1 ++ (xa,x') :: l2) = ents (l1 ++ (xa,x) :: l2):=by
 unfold ents;simp [hx]
theorem Inc.put {l1 l2 : List (StA × Strm)} {xa : StA} {x x' : Strm} (hx : x'.id = x.id) (h : Inc (l1 ++ (xa,x) :: l2)) : Inc (l1 ++ (xa,x') :: l2):=by
 unfold Inc at *
 rw [List.pairwise_append,List.pairwise_cons] at *
 simp only [hx]
 refine ⟨h.1,h.2.1,fun e he f hf=>?_⟩
 rcases List.mem_cons.1 hf with rfl | hf
 ·have:=h.2.2 e he (xa,x) (by simp);simpa [hx] using this
 ·exact h.2.2 e he f (by simp [hf])
theorem blF_go : ∀ (l2 l1 : List (StA × Strm)) (s : SetS) (b : Bat),s.ss = l1 ++ l2 → Inc s.ss →
  (blF s b (l2.map (·.2.id))).1.pl = { s.pl with ss:=l1.map (·.2) ++ (blL (l2.map (·.2)) b).1 } ∧ (blF s b (l2.map (·.2.id))).2 = (blL (l2.map (·.2)) b).2
 | [],l1,s,b,hl,_=>by
  refine ⟨?_,rfl⟩
  show s.pl = _
  simp only [List.map_nil,blL,List.append_nil]
  rw [List.append_nil] at hl
  unfold SetS.pl
  rw [hl]
 | (xa,x) :: t,l1,s,b,hl,h=>by
  have h1:=blStep_at (b:=b) hl h
  have e : blF s b (((xa,x) :: t).map (·.2.id)) = blF { s with ss:=l1 ++ (xa,(blX x b).1) :: t } (blX x b).2 (t.map (·.2.id)):=by
   unfold blF
   rw [List.map_cons,List.foldl_cons]
   show List.foldl _ (blStep s b x.id) _ = _
   rw [h1]
  rw [e]
  obtain ⟨q1,q2⟩:=blF_go t (l1 ++ [(xa,(blX x b).1)]) { s with ss:=l1 ++ (xa,(blX x b).1) :: t } (blX x b).2 (by simp) (by rw [hl] at h;exact h.put (blX_id x b))
  rw [q1,q2]
  refine ⟨?_,rfl⟩
  simp [SetS.pl,blL]
theorem blF_all (h : Inc s.ss) : (blF s b (s.ss.map (·.2.id))).1.pl = { s.pl with ss:=(blL s.pl.ss b).1 } ∧ (blF s b (s.ss.map (·.2.id))).2 = (blL s.pl.ss b).2:=by
 have:=blF_go s.ss [] s b rfl h
 simpa [SetS.pl] using this
theorem bl0_eq : bl0 s.pl b = (({ s with g0:={ s.g0 with bl:=false } } : SetS).pl,if s.g0.bl then b.add (fSBl false s.g0.olim) else b):=by
 unfold bl0
 show (if s.g0.bl then _ else _) = _
 cases hb : s.g0.bl with
 | true=>rfl
 | false=>
  have e : ({ s.g0 with bl:=false } : Grp) = s.g0:=by rw [← hb]
  rw [e];rfl
theorem bl1_eq : bl1 s.pl b = (({ s with g1:={ s.g1 with bl:=false } } : SetS).pl,if s.g1.bl then b.add (fSBl true s.g1.olim) else b):=by
 unfold bl1
 show (if s.g1.bl then _ else _) = _
 cases hb : s.g1.bl with
 | true=>rfl
 | false=>
  have e : ({ s.g1 with bl:=false } : Grp) = s.g1:=by rw [← hb]
  rw [e];rfl
def bl2S (s : SetS) (b : Bat) (q : Bool) : SetS × Bat:=if q then ({ s with cr:=s.cr.bl },if s.cr.isBl then b.add (fDBl s.cr.most) else b) else (s,b)
theorem bl2_eq : bl2 s.pl b = ((bl2S s b (s.ss.any fun e=>outWait e.2.out)).1.pl,(bl2S s b (s.ss.any fun e=>outWait e.2.out)).2):=by
 unfold bl2 bl2S
 have e : (s.pl.ss.any fun x=>outWait x.out) = s.ss.any fun e=>outWait e.2.out:=by unfold SetS.pl;simp [List.any_map,Function.comp_def]
 rw [e]
 split <;> rfl
end
end
section
open Go.RowKit
open frm (FrV)
section
variable {W w w' w0 w1 w2 X Y : World} {H H' H2 : Nat → Option Obj} {a : SetA} {s s' s2 : SetS} {bb : Nat} {v v' v2 : Value} {b b' b2 : Bat}
theorem Stp.nf (S : Stp W w w' H H' a s s' bb v v' b') {k : Nat} (hk : k < w.heap.size) (hn : ¬ sbF s a bb v k) : ¬ sbF s' a bb v' k:=fun c=>(S.fr k c).elim hn (by omega)
theorem Stp.foreign {B : Nat} (S : Stp W w0 w1 H H' a s s' bb v v' b') (hm : Mem W w0 H) (hg : w1.grownBy w2 (some B)) (hB : w0.heap.size ≤ B) (hl : B < w1.heap.size) (hn : ¬ sbF s' a bb v' B) : ∃ H2,Stp W w0 w2 H H2 a s s' bb v v' b':=by
 have hW:=hm.below.size
 have hmem : Mem W w2 (fun k=>if k = B then none else H' k):=⟨S.mem.below.grown hg S.mem.below.size (fun k e=>by cases e;omega),fun k o e=>by
  split at e
  ·cases e
  ·rename_i hne
   obtain ⟨h1,h2⟩:=S.mem.far k o e
   exact ⟨(hg.block k (heap_lt h1) (fun c=>hne (by cases c;rfl))).trans h1,h2⟩⟩
 refine ⟨_,S.sb.keep (fun k o hk e=>?_),⟨hmem,fun k o e hn=>?_,S.tt.nw⟩,S.chg.trans (Chg.grownO hg (fun k e=>?_)),S.fr⟩
 ·rw [if_neg]
  ·exact e
  ·intro c;subst c;exact hn hk
 ·rw [if_neg]
  ·exact S.tt.kp k o e hn
  ·intro c
   have:=hm.lt e
   omega
 ·cases e;exact .inr ⟨hB,hl⟩
structure BlI (W w0 : World) (H : Nat → Option Obj) (a : SetA) (s : SetS) (bb : Nat) (v : Value) (n0 B6 B : Nat) (q : Bool) (s' : SetS) (b' : Bat) (X : World) (H' : Nat → Option Obj) (v' : Value) : Prop where
 x0 : X.heap[n0]? = some (.cells #[.pointer (some ⟨a.sb,0,none⟩)] 25 (0,0))
 x1 : X.heap[n0 + 1]? = some (.cells #[.pointer (some ⟨bb,0,none⟩)] 132 (0,0))
 x6 : X.heap[B6]? = some (.cells #[.bool q] 4 (0,0))
 xB : X.heap[B]? = some (.cells #[.pointer (some ⟨a.sb,0,none⟩)] 25 (0,0))
 st : Stp W w0 X H H' a s s' bb v v' b'
 nf : ∀ k,k = n0 ∨ k = n0 + 1 ∨ k = B6 ∨ k = B → ¬ sbF s' a bb v' k
section
variable {n0 B6 B : Nat} {q : Bool}
theorem BlI.step (h : BlI W w0 H a s bb v n0 B6 B q s' b' X H' v') (S : Stp W X Y H' H2 a s' s2 bb v' v2 b2) : BlI W w0 H a s bb v n0 B6 B q s2 b2 Y H2 v2:=
 ⟨S.box h.x0 (h.nf _ (.inl rfl)),S.box h.x1 (h.nf _ (.inr (.inl rfl))),S.box h.x6 (h.nf _ (.inr (.inr (.inl rfl)))),S.box h.xB (h.nf _ (.inr (.inr (.inr rfl)))),h.st.trans S,
  fun k hk=>S.nf (by rcases hk with rfl | rfl | rfl | rfl;exact heap_lt h.x0;exact heap_lt h.x1;exact heap_lt h.x6;exact heap_lt h.xB) (h.nf k hk)⟩
theorem BlI.own {C : Nat} {row : Option Nat} (h : BlI W w0 H a s bb v n0 B6 B q s' b' X H' v') (h0 : SB H a s bb v b) (hm : Mem W w0 H) (hB : w0.heap.size ≤ C) (hg : X.grownBy Y row) (hr : ∀ k,row = some k → C ≤ k ∧ ∃ o,X.heap[k]? = some o ∧ o.isCells = false) : ∃ H2,BlI W w0 H a s bb v n0 B6 B q s' b' Y H2 v':=by
 obtain ⟨H2,S⟩:=h.st.own h0 hm hB hg hr
 have z : ∀ {k : Nat} {cs : Array Value} {T : TypeId},X.heap[k]? = some (.cells cs T (0,0)) → Y.heap[k]? = some (.cells cs T (0,0)):=fun {k cs T} e=>
  (hg.block k (heap_lt e) (fun c=>by obtain ⟨_,o,ho,hc⟩:=hr k c.symm;rw [e] at ho;cases ho;cases hc)).trans e
 exact ⟨H2,z h.x0,z h.x1,z h.x6,z h.xB,S,h.nf⟩
theorem BlI.set6 (h : BlI W w0 H a s bb v n0 B6 B q s' b' X H' v') (hm : Mem W w0 H) (hB : w0.heap.size ≤ B6) (hne : n0 ≠ B6 ∧ n0 + 1 ≠ B6 ∧ B ≠ B6) (q' : Bool) : ∃ H2,BlI W w0 H a s bb v n0 B6 B q' s' b' (X.setCell ⟨B6,0,none⟩ (.bool q')) H2 v':=by
 have hg : X.grownBy (X.setCell ⟨B6,0,none⟩ (.bool q')) (some B6):=grown_set (grown_refl _ _) _
 obtain ⟨H2,S⟩:=h.st.foreign hm hg hB (heap_lt h.x6) (h.nf _ (.inr (.inr (.inl rfl))))
 have z : ∀ {k : Nat} {o : Obj},k ≠ B6 → X.heap[k]? = some o → (X.setCell ⟨B6,0,none⟩ (.bool q')).heap[k]? = some o:=fun hk e=>(heap_setCell_other X _ _ _ hk).trans e
 exact ⟨H2,z hne.1 h.x0,z hne.2.1 h.x1,heap_setCell_same X B6 0 _ 4 _ h.x6,z hne.2.2 h.xB,S,h.nf⟩
theorem Stp.keeps {C : Nat} (S : Stp W X Y H H' a s s' bb v v' b') (h : SB H a s bb v b) (hm : Mem W X H) : KeepsFrom C X Y:=(SBw.mk hm h).keeps S.chg
theorem Stp.kps {n₀ C : Nat} {cs : Array Value} {T : TypeId} (S : Stp W X Y H H' a s s' bb v v' b') (h : SB H a s bb v b) (hm : Mem W X H) (hB : X.heap[C]? = some (.cells cs T (0,0))) (hn : ¬ sbF s a bb v C) : KpS n₀ C a.sb a.M X Y:=(SBw.mk hm h).kp S.sbw S.chg hB hn
theorem BlI.keeps {C : Nat} (h : BlI W w0 H a s bb v n0 B6 B q s' b' X H' v') (S : Stp W X Y H' H2 a s' s2 bb v' v2 b2) : KeepsFrom C X Y:=S.keeps h.st.sb h.st.mem
theorem BlI.kps {n₀ : Nat} (h : BlI W w0 H a s bb v n0 B6 B q s' b' X H' v') (S : Stp W X Y H' H2 a s' s2 bb v' v2 b2) : KpS n₀ B a.sb a.M X Y:=S.kps h.st.sb h.st.mem h.xB (h.nf _ (.inr (.inr (.inr rfl))))
theorem KpS.put {n₀ B sb M l : Nat} {W : World} {o o' : Obj} (hl : W.heap[l]? = some o) (ho : o.isCells = false) (h1 : l ≠ B) (h2 : l ≠ sb) (h3 : l ≠ M) : KpS n₀ B sb M W (W.putObj l o'):=by
 have hg : W.grownBy (W.putObj l o') (some l):=grownBy_putObj' W l o'
 have hbl : ∀ k,k ≠ l → k < W.heap.size → (W.putObj l o').heap[k]? = W.heap[k]?:=fun k hk hlt=>hg.block k hlt (fun e=>hk (by cases e;rfl))
 refine ⟨hg.size,World.putObj_heap_other (Ne.symm h1),World.cell?_of_block (a:=⟨sb,13,none⟩) (World.putObj_heap_other (Ne.symm h2)),World.putObj_heap_other (Ne.symm h3),fun k cs fz _ hh=>(hbl k (fun e=>?_) (heap_lt hh)).trans hh⟩
 subst e
 rw [hh] at hl;cases hl
 cases ho
theorem KpS.set {n₀ B sb M C : Nat} {W : World} {u : Value} (hC : C < n₀) (h1 : C ≠ B) (h2 : C ≠ sb) (h3 : C ≠ M) (hB : B < W.heap.size) (hM : M < W.heap.size) : KpS n₀ B sb M W (W.setCell ⟨C,0,none⟩ u):=
 KpS.chg (f:=fun k=>k = C) (Chg.setW' W C 0 u rfl) hB hM (fun k e=>by subst e;exact ⟨hC,h1,h3⟩) (World.cell?_of_block (a:=⟨sb,13,none⟩) (heap_setCell_other W _ _ _ (by show sb ≠ C;exact fun e=>h2 e.symm)))
end
def bS (s : SetS) : SetS:={ s with g0:={ s.g0 with bl:=false },g1:={ s.g1 with bl:=false } }
theorem bl2S_ss (q : Bool) : (bl2S s b q).1.ss = s.ss:=by unfold bl2S;split <;> rfl
theorem bl2S_t {ib : Bool} (h : s.cr.isBl = ib) : bl2S s b true = ({ s with cr:=s.cr.bl },if ib then b.add (fDBl s.cr.most) else b):=by subst h;rfl
theorem blP_eq : blP s.pl b = ({ (bl2S (bS s) (if s.g1.bl then (if s.g0.bl then b.add (fSBl false s.g0.olim) else b).add (fSBl true s.g1.olim) else (if s.g0.bl then b.add (fSBl false s.g0.olim) else b)) (s.ss.any fun e=>outWait e.2.out)).1.pl with ss:=(blL (bl2S (bS s) (if s.g1.bl then (if s.g0.bl then b.add (fSBl false s.g0.olim) else b).add (fSBl true s.g1.olim) else (if s.g0.bl then b.add (fSBl false s.g0.olim) else b)) (s.ss.any fun e=>outWait e.2.out)).1.pl.ss (bl2S (bS s) (if s.g1.bl then (if s.g0.bl then b.add (fSBl false s.g0.olim) else b).add (fSBl true s.g1.olim) else (if s.g0.bl then b.add (fSBl false s.g0.olim) else b)) (s.ss.any fun e=>outWait e.2.out)).2).1 },(blL (bl2S (bS s) (if s.g1.bl then (if s.g0.bl then b.add (fSBl false s.g0.olim) else b).add (fSBl true s.g1.olim) else (if s.g0.bl then b.add (fSBl false s.g0.olim) else b)) (s.ss.any fun e=>outWait e.2.out)).1.pl.ss (bl2S (bS s) (if s.g1.bl then (if s.g0.bl then b.add (fSBl false s.g0.olim) else b).add (fSBl true s.g1.olim) else (if s.g0.bl then b.add (fSBl false s.g0.olim) else b)) (s.ss.any fun e=>outWait e.2.out)).2).2):=by
 unfold blP
 rw [bl0_eq]
 simp only
 rw [bl1_eq]
 simp only
 have e : ∀ t : Bat,bl2 (({ s with g0:={ s.g0 with bl:=false },g1:={ s.g1 with bl:=false } } : SetS).pl) t = ((bl2S (bS s) t (s.ss.any fun e=>outWait e.2.out)).1.pl,(bl2S (bS s) t (s.ss.any fun e=>outWait e.2.out)).2):=fun t=>bl2_eq (s:=bS s) (b:=t)
 rw [e]
def RepOk (c : Snd) : Prop:=-1 ≤ c.rep ∧ c.rep ≤ 9223372036854775807
theorem Snd.Ok.bl {c : Snd} (h : c.Ok) : c.bl.Ok:=by
 unfold Snd.bl
 split
 ·exact ⟨h.u0,h.um,h.mm⟩
 ·exact h
theorem RepOk.bl {c : Snd} (h : c.Ok) (hr : RepOk c) : RepOk c.bl:=by
 have h1:=h.u0;have h2:=h.um;have h3:=h.mm
 unfold maxOff at h3
 unfold Snd.bl RepOk at *
 split
 ·simp only;omega
 ·exact hr
theorem SB.outC {l1 l2 : List (StA × Strm)} {xa : StA} {x : Strm} {oa : OutA} {o : OutP} {c : Snd} (h : SB H a s bb v b) (hm : Mem W w H) (hl : s.ss = l1 ++ (xa,x) :: l2) (ho : xa.o = some oa) (hxo : x.out = some o) (hO : OutIn H oa o) (hB : Blk oa.cb c.cells 161 w w') (hc : c.Ok) :
  ∃ H',Stp W w w' H H' a s { s with ss:=l1 ++ (xa,{ x with out:=some { o with cr:=c } }) :: l2 } bb v v b:=by
 obtain ⟨H',O,T⟩:=hO.setC hm hB hc
 exact ⟨H',h.out hm hl ho hxo T O (Chg.grown hB.2 (.inr (.inr (.inl rfl))))⟩
structure BlG (s3 : SetS) (n : Nat) (s' : SetS) (b' : Bat) : Prop where
 ok : b'.Ok
 len : b'.fs.length ≤ n
 en : ents s'.ss = ents s3.ss
 inc : Inc s'.ss
 rep : ∀ e ∈ s'.ss,∀ o,e.2.out = some o → RepOk o.cr
theorem BlG.put {s3 : SetS} {n : Nat} {l1 l2 : List (StA × Strm)} {xa : StA} {x x' : Strm} {b2 : Bat} (h : BlG s3 n s' b') (hl : s'.ss = l1 ++ (xa,x) :: l2) (hx : x'.id = x.id) (hr : ∀ o,x'.out = some o → RepOk o.cr) (hb : b2.Ok) (hn : b2.fs.length ≤ n + 1) : BlG s3 (n + 1) { s' with ss:=l1 ++ (xa,x') :: l2 } b2:=by
 have h3:=h.en;have h4:=h.inc;have h5:=h.rep
 rw [hl] at h3 h4 h5
 refine ⟨hb,hn,(ents_put hx).trans h3,h4.put hx,fun e he o ho=>?_⟩
 rcases List.mem_append.1 he with c | c
 ·exact h5 e (List.mem_append_left _ c) o ho
 ·rcases List.mem_cons.1 c with rfl | c
  ·exact hr o ho
  ·exact h5 e (List.mem_append_right _ (List.mem_cons_of_mem _ c)) o ho
theorem blX_no {x : Strm} (h : outWait x.out = false) : blX x b = (x,b):=by
 unfold blX
 cases hx : x.out with
 | none=>rfl
 | some o=>
  rw [hx] at h
  have h : o.wait = false:=h
  simp [h]
theorem blX_yes {x : Strm} {o : OutP} {ib : Bool} (hx : x.out = some o) (h : outWait x.out = true) (hib : o.cr.isBl = ib) : blX x b = ({ x with out:=some { o with cr:=o.cr.bl } },if ib then b.add (fSDBl x.id o.cr.most) else b):=by
 unfold blX
 rw [hx] at h
 have h : o.wait = true:=h
 subst hib
 simp [hx,h]
theorem Snd.Ok.most {c : Snd} (h : c.Ok) : 0 ≤ c.most ∧ c.most ≤ 4611686018427387903:=by
 have h1:=h.u0;have h2:=h.um;have h3:=h.mm
 unfold maxOff at h3
 omega
end
end
section
open frm (FrV)
theorem nextP_new {X : Wh} (h : X.Ok) {most credit : Int} {p : Nat × Nat} (hp : X.nextP most credit = some p) : ((max X.sent p.2 : Nat) : Int) - X.sent ≤ max 0 credit ∧ p.2 - p.1 ≤ most.toNat:=by
 have hpc:=Wh.nextP_piece h hp
 unfold Wh.nextP at hp
 split at hp
 ·cases hp
 ·split at hp
  ·rename_i h0
   cases hp
   have hr:=runLen_le 2 (X.T.drop (first 2 X.T)) most.toNat
   simp only at hpc ⊢
   refine ⟨?_,by omega⟩
   suffices hs : first 2 X.T + runLen 2 (X.T.drop (first 2 X.T)) most.toNat ≤ X.sent by omega
   by_cases hz : runLen 2 (X.T.drop (first 2 X.T)) most.toNat = 0
   ·have:=hpc.sent;omega
   ·have h9:=runLen_lt 2 (X.T.drop (first 2 X.T)) most.toNat (runLen 2 (X.T.drop (first 2 X.T)) most.toNat - 1) (by omega)
    have e : gd (X.T.drop (first 2 X.T)) (runLen 2 (X.T.drop (first 2 X.T)) most.toNat - 1) = gd X.T (first 2 X.T + (runLen 2 (X.T.drop (first 2 X.T)) most.toNat - 1)):=by simp [gd]
    rw [e] at h9
    rcases Nat.lt_or_ge (first 2 X.T + (runLen 2 (X.T.drop (first 2 X.T)) most.toNat - 1)) X.sent with h8 | h8
    ·omega
    ·rw [h.mono _ h8] at h9;cases h9
  ·split at hp
   ·cases hp;simp only;omega
   ·split at hp
    ·cases hp;simp only;omega
    ·cases hp
theorem frameR_size {X : Wh} {f t : Nat} (hp : X.Piece f t) : (X.frameR f t).s.size = t - f:=by
 unfold Wh.frameR mkFr
 simp only [frm.strOf_size,List.length_take,List.length_drop]
 have:=hp.t;omega
theorem srvN_eq {o : OutP} (h : o.X.Ok) {p : Nat × Nat} (hp : o.X.Piece p.1 p.2) : srvN o p = ((max o.X.sent p.2 : Nat) : Int) - o.X.sent:=by
 unfold srvN
 rw [(Wh.frame_sent h hp).1]
structure SrvOk (c : Snd) (o : OutP) (b : Bat) (p : Nat × Nat) : Prop where
 n0 : 0 ≤ srvN o p
 nc : srvN o p ≤ c.av
 no : srvN o p ≤ o.cr.av
 pc : o.X.Piece p.1 p.2
 sz : p.2 - p.1 ≤ 1024
 lf : ((p.2 - p.1 : Nat) : Int) ≤ b.lf - 20
 t : (p.2 : Int) ≤ max (o.X.sent : Int) ((o.X.sent : Int) + srvN o p)
theorem srv_ok {c : Snd} {o : OutP} {b : Bat} {p : Nat × Nat} (hX : o.X.Ok) (hc : c.Ok) (ho : o.cr.Ok) (hl : 32 ≤ b.lf) (hp : srvP c o b = some p) : SrvOk c o b p:=by
 unfold srvP at hp
 have h1:=Wh.nextP_piece hX hp
 obtain ⟨h2,h3⟩:=nextP_new hX hp
 have h4:=srvN_eq hX h1
 have:=hc.um;have:=ho.um
 unfold srvCred Snd.av at h2
 unfold srvMost at h3
 refine ⟨by omega,by unfold Snd.av;omega,by unfold Snd.av;omega,h1,by omega,by omega,by omega⟩
theorem srvF_ok {id : Nat} (hid : id < 1152921504606846976) {c : Snd} {o : OutP} {b : Bat} {p : Nat × Nat} (h : SrvOk c o b p) (ho : o.cr.Ok) (hsu : (o.X.sent : Int) ≤ o.cr.used) : srvF id o p = fStr id p.1 (o.X.frameR p.1 p.2).s (o.X.frameR p.1 p.2).fin ∧ FrV (srvF id o p):=by
 have e : srvF id o p = fStr id p.1 (o.X.frameR p.1 p.2).s (o.X.frameR p.1 p.2).fin:=rfl
 refine ⟨e,?_⟩
 rw [e]
 have h1:=frameR_size h.pc
 have h2:=h.pc.ft
 have h3:=h.sz
 have h4:=h.t
 have h5:=h.no
 have h6:=ho.mm
 have h7:=h.n0
 unfold Snd.av at h5
 unfold maxOff at h6
 exact v_str ⟨by omega,by omega⟩ (by omega) (by rw [h1];omega) (by rw [h1];omega)
end
section
open Go.RowKit
def full (W w : World) : Nat → Option Obj:=fun k=>if W.heap.size ≤ k then w.heap[k]? else none
section
variable {W w w' w2 : World} {H H' : Nat → Option Obj} {a : SetA} {s s' : SetS} {bb : Nat} {v v' : Value} {b b' : Bat} {f f' : Nat → Prop}
theorem full_at (hm : Mem W w H) {k : Nat} {o : Obj} (h : H k = some o) : full W w k = some o:=by
 obtain ⟨h1,h2⟩:=hm.far k o h
 unfold full;rw [if_pos h2];exact h1
theorem full_is {k : Nat} {o : Obj} (h : w.heap[k]? = some o) (hk : W.heap.size ≤ k) : full W w k = some o:=by unfold full;rw [if_pos hk];exact h
theorem Mem.full (h : Below W.heap.size W w) : Mem W w (full W w):=⟨h,fun k o e=>by
 unfold stm.full at e
 split at e
 ·exact ⟨e,by assumption⟩
 ·cases e⟩
theorem SB.full (h : SB H a s bb v b) (hm : Mem W w H) : SB (full W w) a s bb v b:=h.keep (fun k o _ e=>full_at hm e)
theorem To.full (T : To W w' H H' f f') : To W w' H (full W w') f f':=
 ⟨Mem.full T.mem.below,fun k o e hn=>full_at T.mem (T.kp k o e hn),T.nw⟩
def isJ (o : Option Obj) : Prop:=∃ cs T,o = some (.cells cs T (0,0)) ∧ T ≠ 38
theorem isJ.mk {o : Option Obj} {cs : Array Value} {T : TypeId} (h : o = some (.cells cs T (0,0))) (hT : T ≠ 38) : isJ o:=⟨cs,T,h,hT⟩
theorem RowH.isJ {e : TypeId} {size n : Nat} {xs : List Value} (h : RowH H e size v n xs) (he : e ≠ 38) {k : Nat} (hk : v.ownBlock = some k) : isJ (H k):=by
 obtain ⟨c,hc⟩:=h.block hk;exact .mk hc he
theorem StIn.isJ {xa : StA} {x : Strm} (h : StIn H xa x) {k : Nat} (hk : xa.foot k) : isJ (H k):=by
 rcases hk with rfl | hk | hk
 ·exact .mk h.xb (by decide)
 ·have h0:=h.o
  cases ha : xa.o with
  | none=>rw [ha] at hk;exact hk.elim
  | some oa=>cases hb : x.out with
   | none=>rw [ha,hb] at h0;exact h0.elim
   | some o=>
    rw [ha] at hk;rw [ha,hb] at h0
    rcases hk with rfl | hk | rfl | hk
    ·exact .mk h0.ob (by decide)
    ·obtain ⟨_,vd,vs,h1,h2,h3,h4⟩:=h0.bf
     rcases (h4 k).1 hk with rfl | e | e
     ·exact .mk h1 (by decide)
     ·exact h2.isJ (by decide) e
     ·exact h3.isJ (by decide) e
    ·exact .mk h0.cb (by decide)
    ·exact h0.ak.isJ (by decide) hk
 ·have h0:=h.i
  cases ha : xa.i with
  | none=>rw [ha] at hk;exact hk.elim
  | some oa=>cases hb : x.inp with
   | none=>rw [ha,hb] at h0;exact h0.elim
   | some i=>
    rw [ha] at hk;rw [ha,hb] at h0
    rcases hk with rfl | rfl | rfl | rfl | rfl
    ·exact .mk h0.ib (by decide)
    ·exact .mk h0.rb (by decide)
    ·exact .mk h0.h1 (by decide)
    ·exact .mk h0.h2 (by decide)
    ·exact .mk h0.wb (by decide)
theorem SetIn.isJ (h : SetIn H a s) {k : Nat} (hk : s.foot a k) (hM : k ≠ a.M) : isJ (H k):=by
 rcases hk with (rfl | rfl | rfl | rfl) | ⟨e,he,hk⟩
 ·exact .mk h.sb (by decide)
 ·exact absurd rfl hM
 ·exact .mk h.cb (by decide)
 ·exact .mk h.wb (by decide)
 ·exact (h.li.all e he).isJ hk
theorem SetIn.no38 (h : SetIn H a s) {k : Nat} {cs : Array Value} (hk : H k = some (.cells cs 38 (0,0))) : ¬ s.foot a k:=fun c=>by
 by_cases hM : k = a.M
 ·obtain ⟨mo,m1,m2,_⟩:=h.mp
  rw [hM,m1] at hk
  exact isC_ne' m2 _ _ _ (Option.some.inj hk)
 ·obtain ⟨ds,T,e,hT⟩:=h.isJ c hM
  rw [hk] at e
  simp at e
  exact hT e.2.symm
end
end
section
open Go.RowKit
def sl28 (i : Nat) : Option Nat:=if i < 21 then some (32 + i) else if i = 21 then some 53 else if i = 22 then some 31 else if i = 23 then some 54 else if i = 24 then some 55 else if i = 25 then some 9 else if i = 27 then some 10 else none
theorem sl28_is {i d : Nat} (h : sl28 i = some d) : (i < 21 ∧ d = 32 + i) ∨ (i = 21 ∧ d = 53) ∨ (i = 22 ∧ d = 31) ∨ (i = 23 ∧ d = 54) ∨ (i = 24 ∧ d = 55) ∨ (i = 25 ∧ d = 9) ∨ (i = 27 ∧ d = 10):=by
 unfold sl28 at h
 (repeat' split at h) <;> simp at h <;> omega
structure WS (w : World) (bf : Nat → Prop) (bb : Nat) (B' : Bf) (Fc : Array Value) (fb : Nat) (L : Nat → Bool) (w1 : World) : Prop where
 kp : ∀ k o,w.heap[k]? = some o → ¬ bf k → w1.heap[k]? = some o
 sz : w.heap.size ≤ w1.heap.size
 pre : L 21 = false → Below w.heap.size w w1
 post : L 21 = true → Chg bf w w1 ∧ Inv w1 bb (Ext bf w w1) B'
 al : L 25 = true → w.heap.size ≤ fb ∧ w1.heap[fb]? = some (.cells (if L 26 then Fc else fr0.cells) 38 (0,0))
 od : L 26 = true → L 21 = true ∧ L 25 = true
 c22 : L 22 = true → L 21 = true
 c23 : L 23 = true → L 22 = true
 ap : L 21 = true → ∃ G : Nat → Prop,(∀ k,G k → bf k ∨ w.heap.size ≤ k) ∧ (∀ k,G k → k < w1.heap.size) ∧ Inv w1 bb G B' ∧ (L 25 = true → ¬ G fb)
variable {w w1 w2 : World} {bf : Nat → Prop} {bb : Nat} {B' : Bf} {Fc : Array Value} {fb : Nat} {L : Nat → Bool}
theorem WS.mono (h : WS w bf bb B' Fc fb L w1) (i : Nat) (h1 : i ≠ 21) (h2 : i ≠ 25) (h3 : i ≠ 26) (h4 : i = 22 → L 21 = true) (h5 : i = 23 → L 22 = true) : WS w bf bb B' Fc fb (fun j=>j == i || L j) w1:=by
 have e21 : ((21 == i) || L 21) = L 21:=by simp [Ne.symm h1]
 have e25 : ((25 == i) || L 25) = L 25:=by simp [Ne.symm h2]
 have e26 : ((26 == i) || L 26) = L 26:=by simp [Ne.symm h3]
 refine ⟨h.kp,h.sz,fun e=>h.pre (by rw [← e21];exact e),fun e=>h.post (by rw [← e21];exact e),fun e=>?_,fun e=>?_,fun e=>?_,fun e=>?_,fun e=>?_⟩
 ·show _ ∧ w1.heap[fb]? = some (.cells (if ((26 == i) || L 26) then Fc else fr0.cells) 38 (0,0))
  rw [e26];exact h.al (by rw [← e25];exact e)
 ·show ((21 == i) || L 21) = true ∧ ((25 == i) || L 25) = true
  rw [e21,e25];exact h.od (by rw [← e26];exact e)
 ·show ((21 == i) || L 21) = true
  rw [e21]
  rcases Bool.or_eq_true .. ▸ e with e | e
  ·exact h4 (beq_iff_eq.1 e).symm
  ·exact h.c22 e
 ·show ((22 == i) || L 22) = true
  rcases Bool.or_eq_true .. ▸ e with e | e
  ·rw [h5 (beq_iff_eq.1 e).symm,Bool.or_true]
  ·rw [h.c23 e,Bool.or_true]
 ·obtain ⟨G,q1,q2,q3,q4⟩:=h.ap (by rw [← e21];exact e)
  exact ⟨G,q1,q2,q3,fun e=>q4 (by rw [← e25];exact e)⟩
theorem WS.same (h : WS w bf bb B' Fc fb L w1) (hb : Below w1.heap.size w1 w2) : WS w bf bb B' Fc fb L w2:=by
 refine ⟨fun k o hk hn=>heap_below hb (h.kp k o hk hn),Nat.le_trans h.sz hb.size,fun e=>(h.pre e).trans (hb.mono h.sz),fun e=>?_,fun e=>⟨(h.al e).1,heap_below hb (h.al e).2⟩,h.od,h.c22,h.c23,fun e=>?_⟩
 ·obtain ⟨q1,q2⟩:=h.post e
  exact ⟨q1.trans1 (Chg.below hb),(q2.below hb).ext (fun k hk=>hk.imp id (fun c=>⟨c.1,Nat.lt_of_lt_of_le c.2 hb.size⟩))⟩
 ·obtain ⟨G,q1,q2,q3,q4⟩:=h.ap e
  exact ⟨G,q1,fun k hk=>Nat.lt_of_lt_of_le (q2 k hk) hb.size,q3.below hb,q4⟩
theorem WS.call (h : WS w bf bb B' Fc fb L w1) (hL : L 21 = false) (hbf : ∀ k,bf k → k < w.heap.size) (hc : Chg bf w1 w2) (hi : Inv w2 bb (Ext bf w1 w2) B') : WS w bf bb B' Fc fb (fun j=>j == 21 || L j) w2:=by
 have h26 : L 26 = false:=by
  cases e : L 26 with
  | false=>rfl
  | true=>have:=(h.od e).1;rw [hL] at this;cases this
 have hC : Chg bf w w2:=(Chg.below (h.pre hL)).trans1 hc
 refine ⟨fun k o hk hn=>hc.heap (h.kp k o hk hn) hn,Nat.le_trans h.sz hc.size,fun e=>(by simp at e),fun _=>⟨hC,hi.ext (fun k hk=>hk.imp id (fun c=>⟨Nat.le_trans h.sz c.1,c.2⟩))⟩,fun e=>?_,fun e=>?_,fun _=>by simp,fun e=>?_,fun _=>⟨Ext bf w1 w2,fun k hk=>hk.imp id (fun c=>Nat.le_trans h.sz c.1),fun k hk=>?_,hi,fun e c=>?_⟩⟩
 ·have e2 : L 25 = true:=by simpa using e
  obtain ⟨q1,q2⟩:=h.al e2
  have e6 : ((26 == 21) || L 26) = L 26:=by simp
  show _ ∧ w2.heap[fb]? = some (.cells (if ((26 == 21) || L 26) then Fc else fr0.cells) 38 (0,0))
  rw [e6]
  exact ⟨q1,hc.heap q2 (fun c=>by have:=hbf _ c;omega)⟩
 ·have e2 : L 26 = true:=by simpa using e
  rw [h26] at e2;cases e2
 ·have e2 : L 23 = true:=by simpa using e
  have:=h.c22 (h.c23 e2);rw [hL] at this;cases this
 ·rcases hk with c | c
  ·exact Nat.lt_of_lt_of_le (hbf k c) (Nat.le_trans h.sz hc.size)
  ·exact c.2
 ·have e2 : L 25 = true:=by simpa using e
  obtain ⟨q1,q2⟩:=h.al e2
  rcases c with c | c
  ·have:=hbf _ c;omega
  ·have:=heap_lt q2;omega
theorem WS.made (h : WS w bf bb B' Fc fb L w1) (hL : L 25 = false) : WS w bf bb B' Fc w1.heap.size (fun j=>j == 25 || L j) (w1.alloc (.cells fr0.cells 38)):=by
 have h26 : L 26 = false:=by
  cases e : L 26 with
  | false=>rfl
  | true=>have:=(h.od e).2;rw [hL] at this;cases this
 have hb : Below w1.heap.size w1 (w1.alloc (.cells fr0.cells 38)):=bz0.alloc (Nat.le_refl _) _
 refine ⟨fun k o hk hn=>heap_below hb (h.kp k o hk hn),Nat.le_trans h.sz hb.size,fun e=>(h.pre (by simpa using e)).trans (hb.mono h.sz),fun e=>?_,fun _=>?_,fun e=>?_,fun e=>?_,fun e=>?_,fun e=>?_⟩
 ·obtain ⟨q1,q2⟩:=h.post (by simpa using e)
  exact ⟨q1.trans1 (Chg.below hb),(q2.below hb).ext (fun k hk=>hk.imp id (fun c=>⟨c.1,Nat.lt_of_lt_of_le c.2 hb.size⟩))⟩
 ·show _ ∧ (w1.alloc _).heap[w1.heap.size]? = some (.cells (if ((26 == 25) || L 26) then Fc else fr0.cells) 38 (0,0))
  rw [h26]
  exact ⟨h.sz,heap_alloc_new w1 _⟩
 ·have e2 : L 26 = true:=by simpa using e
  rw [h26] at e2;cases e2
 ·have e2 : L 22 = true:=by simpa using e
  simp [h.c22 e2]
 ·have e2 : L 23 = true:=by simpa using e
  simp [h.c23 e2]
 ·obtain ⟨G,q1,q2,q3,q4⟩:=h.ap (by simpa using e)
  exact ⟨G,q1,fun k hk=>Nat.lt_of_lt_of_le (q2 k hk) hb.size,q3.below hb,fun _ c=>Nat.lt_irrefl _ (q2 _ c)⟩
theorem WS.stored (h : WS w bf bb B' Fc fb L w1) (h25 : L 25 = true) (h21 : L 21 = true) (hbf : ∀ k,bf k → k < w.heap.size) : WS w bf bb B' Fc fb (fun j=>j == 26 || L j) (w1.setRow fb Fc):=by
 obtain ⟨q1,q2⟩:=h.al h25
 obtain ⟨G,g1,g2,g3,g4⟩:=h.ap h21
 have hs : ∀ k,k ≠ fb → (w1.setRow fb Fc).heap[k]? = w1.heap[k]?:=fun k hk=>setRow_other w1 fb k _ hk
 have hz : (w1.setRow fb Fc).heap.size = w1.heap.size:=by simp
 have hC : Chg (fun k=>k = fb) w1 (w1.setRow fb Fc):=⟨rfl,rfl,rfl,Nat.le_of_eq hz.symm,fun k _ hk=>hs k hk⟩
 have hG : Inv (w1.setRow fb Fc) bb G B':=g3.chg hC (fun k hk e=>g4 h25 (e ▸ hk))
 have hCw : Chg bf w (w1.setRow fb Fc):=by
  obtain ⟨c,_⟩:=h.post h21
  exact ⟨c.os,c.tape,c.output,by rw [hz];exact h.sz,fun k hk hn=>(hs k (by omega)).trans (c.block k hk hn)⟩
 refine ⟨fun k o hk hn=>(hs k (by have:=heap_lt hk;omega)).trans (h.kp k o hk hn),by rw [hz];exact h.sz,fun e=>?_,fun _=>⟨hCw,hG.ext (fun k hk=>(g1 k hk).imp id (fun c=>⟨c,by rw [hz];exact g2 k hk⟩))⟩,fun _=>⟨q1,?_⟩,fun _=>by simp [h21,h25],fun e=>?_,fun e=>?_,fun _=>⟨G,g1,fun k hk=>by rw [hz];exact g2 k hk,hG,fun _=>g4 h25⟩⟩
 ·have : ((21 == 26) || L 21) = false:=e
  rw [h21] at this;simp at this
 ·show (w1.setRow fb Fc).heap[fb]? = some (Obj.cells (if ((26 == 26) || L 26) then Fc else fr0.cells) 38 (0,0))
  simp only [beq_self_eq_true,Bool.true_or,if_true]
  exact setRow_heap w1 _ _ _ 38 _ q2
 ·have e2 : L 22 = true:=by simpa using e
  simp [h.c22 e2]
 ·have e2 : L 23 = true:=by simpa using e
  simp [h.c23 e2]
section
variable {W w w' : World} {H : Nat → Option Obj} {a : SetA} {s s' : SetS} {bb : Nat} {v : Value} {b : Bat}
def valS (a : SetA) (s : SetS) (oa : OutA) (o : OutP) (bb : Nat) (b : Bat) (Fc : Array Value) (ok : Bool) (qm qc : Int) (fb : Nat) (jj : Nat) : Value:=(#[.pointer (some ⟨oa.ob,0,none⟩),.pointer (some ⟨oa.ob,0,none⟩),.pointer (some ⟨oa.ob,0,none⟩),.pointer (some ⟨oa.bb,0,none⟩),.pointer (some ⟨bb,0,none⟩),.pointer (some ⟨bb,0,none⟩),.pointer (some ⟨bb,1,none⟩),.int .i64 b.lf,.int .i64 (b.lf - 20),.int .i64 qm,.pointer (some ⟨a.sb,0,none⟩),.pointer (some ⟨a.sb,0,none⟩),.pointer (some ⟨a.sb,30,none⟩),.pointer (some ⟨a.cb,0,none⟩),.int .i64 s.cr.av,.pointer (some ⟨oa.ob,0,none⟩),.pointer (some ⟨oa.ob,0,none⟩),.pointer (some ⟨oa.ob,1,none⟩),.pointer (some ⟨oa.cb,0,none⟩),.int .i64 o.cr.av,.int .i64 qc,.tuple #[.agg Fc,.bool ok],.tuple #[.agg Fc,.bool ok],.agg Fc,.bool ok,.pointer (some ⟨fb,0,none⟩),undef,.bool ok] : Array Value)[jj]?.getD undef
theorem valS_eq {a : SetA} {s : SetS} {oa : OutA} {o : OutP} {bb : Nat} {b : Bat} {Fc : Array Value} {ok : Bool} {qm qc : Int} {x y : Nat} {jj : Nat} (h : jj ≠ 25) : valS a s oa o bb b Fc ok qm qc x jj = valS a s oa o bb b Fc ok qm qc y jj:=by
 match jj with
 | 0 | 1 | 2 | 3 | 4 | 5 | 6 | 7 | 8 | 9 | 10 | 11 | 12 | 13 | 14 | 15 | 16 | 17 | 18 | 19 | 20 | 21 | 22 | 23 | 24 | 26 | 27=>rfl
 | 25=>exact absurd rfl h
 | _ + 28=>rfl
end
end
end Go.Proofs.YthckbmcmdcemkaaGreatDoor.stm
