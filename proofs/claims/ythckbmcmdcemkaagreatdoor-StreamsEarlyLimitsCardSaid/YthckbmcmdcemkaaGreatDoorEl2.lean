/- Texts of this claim, one behind the other: Xc. -/
import Derived.Test.YthckbmcmdcemkaaGreatDoorBs37
import Derived.Test.YthckbmcmdcemkaaGreatDoorBs29
import Derived.Test.YthckbmcmdcemkaaGreatDoorBs39
set_option maxRecDepth 100000
set_option maxHeartbeats 16000000
set_option linter.unusedSimpArgs false
set_option linter.unusedVariables false
namespace Go.Proofs.YthckbmcmdcemkaaGreatDoor.stm
section
open Go.RowKit
def spX (n : Int) (x : Strm) : Strm:={ x with out:=x.out.map fun o=>{ o with cr:=o.cr.raise n } }
def stP (p : SetP) (y : Pms) : SetP:={ p with peer:=y,g0:={ p.g0 with olim:=max p.g0.olim y.bidi },g1:={ p.g1 with olim:=max p.g1.olim y.uni },cr:=p.cr.raise y.data,ss:=p.ss.map (spX y.sdata) }
def spL (n : Int) (pre : List Nat) (ss : List (StA × Strm)) : List (StA × Strm):=ss.map fun e=>if e.2.id ∈ pre then (e.1,spX n e.2) else e
theorem raise_twice (c : Snd) (n : Int) : (c.raise n).raise n = c.raise n:=by
 unfold Snd.raise
 simp only [Snd.mk.injEq,and_true]
 omega
theorem spX_id (n : Int) (x : Strm) : (spX n x).id = x.id:=rfl
theorem spX_twice (n : Int) (x : Strm) : spX n (spX n x) = spX n x:=by
 obtain ⟨id,o,i,ac⟩:=x
 cases o with
 | none=>rfl
 | some o=>
  show (⟨id,some { o with cr:=(o.cr.raise n).raise n },i,ac⟩ : Strm) = ⟨id,some { o with cr:=o.cr.raise n },i,ac⟩
  rw [raise_twice]
theorem spL_nil (n : Int) (ss : List (StA × Strm)) : spL n [] ss = ss:=by
 unfold spL
 simp
theorem spL_inc {n : Int} {pre : List Nat} {ss : List (StA × Strm)} (h : Inc ss) : Inc (spL n pre ss):=by
 unfold spL Inc
 rw [List.pairwise_map]
 refine h.imp (fun {e f} hl=>?_)
 split <;> split <;> exact hl
theorem spL_ents (n : Int) (pre : List Nat) (ss : List (StA × Strm)) : ents (spL n pre ss) = ents ss:=by
 unfold spL ents
 rw [List.map_map]
 refine List.map_congr_left (fun e _=>?_)
 show ((if e.2.id ∈ pre then (e.1,spX n e.2) else e).2.id,(if e.2.id ∈ pre then (e.1,spX n e.2) else e).1.xb) = _
 split <;> rfl
theorem spL_addr {n : Int} {pre : List Nat} {ss : List (StA × Strm)} {xa : StA} {x : Strm} (h : (xa,x) ∈ spL n pre ss) : ∃ x0,(xa,x0) ∈ ss:=by
 unfold spL at h
 obtain ⟨e,he,h2⟩:=List.mem_map.mp h
 refine ⟨e.2,?_⟩
 split at h2
 ·cases h2;exact he
 ·rw [h2] at he;exact h2 ▸ he
theorem spL_step {n : Int} {pre : List Nat} {ss l1 l2 : List (StA × Strm)} {xa : StA} {x : Strm} (h : Inc ss) (hs : spL n pre ss = l1 ++ (xa,x) :: l2) : spL n (pre ++ [x.id]) ss = l1 ++ (xa,spX n x) :: l2:=by
 have hi:=spL_inc (n:=n) (pre:=pre) h
 rw [hs] at hi
 have e:=map_at (g:=(xa,spX n x)) hi
 rw [← e,← hs]
 unfold spL
 rw [List.map_map]
 have hin : ∀ f ∈ ss,f.2.id = x.id → (if f.2.id ∈ pre then (f.1,spX n f.2) else f) = (xa,x):=by
  intro f hf hid
  have hm : (if f.2.id ∈ pre then (f.1,spX n f.2) else f) ∈ l1 ++ (xa,x) :: l2:=by
   rw [← hs];unfold spL;exact List.mem_map.mpr ⟨f,hf,rfl⟩
  have hidf : (if f.2.id ∈ pre then (f.1,spX n f.2) else f).2.id = x.id:=by split <;> exact hid
  rcases List.mem_append.mp hm with c | c
  ·exact absurd hidf (hi.apart.1 _ c)
  ·rcases List.mem_cons.mp c with c | c
   ·exact c
   ·exact absurd hidf (hi.apart.2 _ c)
 refine List.map_congr_left (fun f hf=>?_)
 show (if f.2.id ∈ pre ++ [x.id] then (f.1,spX n f.2) else f) = (if (if f.2.id ∈ pre then (f.1,spX n f.2) else f).2.id = x.id then (xa,spX n x) else (if f.2.id ∈ pre then (f.1,spX n f.2) else f))
 by_cases hid : f.2.id = x.id
 ·have e1:=hin f hf hid
  rw [if_pos (by simp [hid]),e1,if_pos rfl]
  by_cases hp : f.2.id ∈ pre
  ·rw [if_pos hp] at e1
   cases e1
   rw [spX_twice]
  ·rw [if_neg hp] at e1
   subst e1;rfl
 ·have e2 : (if f.2.id ∈ pre then (f.1,spX n f.2) else f).2.id = f.2.id:=by split <;> rfl
  rw [e2,if_neg hid]
  by_cases hp : f.2.id ∈ pre
  ·rw [if_pos hp,if_pos (by simp [hp])]
  ·rw [if_neg hp,if_neg (by simp [hp,hid])]
theorem spL_all {n : Int} {pre : List Nat} {ss : List (StA × Strm)} (h : ∀ e ∈ ss,e.2.id ∈ pre) : spL n pre ss = ss.map fun e=>(e.1,spX n e.2):=by
 unfold spL
 refine List.map_congr_left (fun e he=>?_)
 rw [if_pos (h e he)]
section
variable {W w w' w0 X Y : World} {H H' H2 : Nat → Option Obj} {a : SetA} {s s' s2 : SetS}
structure SpO (W w0 : World) (a : SetA) (s s' : SetS) (X : World) : Prop where
 be : Below W.heap.size W X
 st : SetIn (full W X) a s'
 kp : ∀ k o,full W w0 k = some o → ¬ s.foot a k → full W X k = some o
 nw : ∀ k,s'.foot a k → s.foot a k ∨ full W w0 k = none
 M : a.M < w0.heap.size
theorem SpO.start (hm : Mem W w0 H) (h : SetIn H a s) : SpO W w0 a s s w0:=
 ⟨hm.below,h.keep (fun _ _ _ e=>full_at hm e),fun _ _ e _=>e,fun _ h=>.inl h,by
  obtain ⟨mo,m1,_,_⟩:=h.mp
  exact hm.lt m1⟩
theorem SpO.own {row : Option Nat} (h : SpO W w0 a s s' X) (hg : X.grownBy Y row) (hr : ∀ k,row = some k → w0.heap.size ≤ k ∧ W.heap.size ≤ k ∧ ∃ o,X.heap[k]? = some o ∧ o.isCells = false) : SpO W w0 a s s' Y:=by
 have hk : ∀ k o,X.heap[k]? = some o → row ≠ some k → Y.heap[k]? = some o:=fun k o e hn=>(hg.block k (heap_lt e) (fun c=>hn c.symm)).trans e
 have hM:=h.M
 refine ⟨h.be.grown hg h.be.size (fun k e=>(hr k e).2.1),h.st.keep (fun k o hf e=>?_),fun k o e hn=>?_,h.nw,h.M⟩
 ·obtain ⟨e2,e1⟩:=full_of e
  refine full_is (hk k o e1 (fun c=>?_)) e2
  obtain ⟨q1,_,o2,q2,q3⟩:=hr k c
  rw [e1] at q2;cases q2
  exact h.st.no e q3 (by omega) hf
 ·obtain ⟨e2,e1⟩:=full_of (h.kp k o e hn)
  refine full_is (hk k o e1 (fun c=>?_)) e2
  have:=(hr k c).1
  have : k < w0.heap.size:=heap_lt (full_of e).2
  omega
theorem SpO.turn (h : SpO W w0 a s s' X) (T : To W Y (full W X) H2 (s'.foot a) (s2.foot a)) (S : SetIn H2 a s2) : SpO W w0 a s s2 Y:=by
 have k0 : ∀ k o,full W w0 k = some o → ¬ s.foot a k → ¬ s'.foot a k:=fun k o e hn c=>(h.nw k c).elim hn (fun c=>by rw [e] at c;cases c)
 refine ⟨T.mem.below,S.keep (fun _ _ _ e=>full_at T.mem e),fun k o e hn=>full_at T.mem (T.kp k o (h.kp k o e hn) (k0 k o e hn)),fun k hk=>?_,h.M⟩
 rcases T.nw k hk with c | c
 ·exact h.nw k c
 ·by_cases hn : s.foot a k
  ·exact .inl hn
  ·refine .inr ?_
   cases e : full W w0 k with
   | none=>rfl
   | some o=>rw [h.kp k o e hn] at c;cases c
theorem SpO.to (h : SpO W w0 a s s' X) (hm : Mem W w0 H) : To W X H (full W X) (s.foot a) (s'.foot a):=
 ⟨Mem.full h.be,fun k o e hn=>h.kp k o (full_at hm e) hn,fun k hk=>by
  rcases h.nw k hk with c | c
  ·exact .inl c
  ·refine .inr ?_
   cases e : H k with
   | none=>rfl
   | some o=>rw [full_at hm e] at c;cases c⟩
theorem SpO.box (h : SpO W w0 a s s' X) {k : Nat} {o : Obj} (e : w0.heap[k]? = some o) (hk : W.heap.size ≤ k) (hn : ¬ s.foot a k) : X.heap[k]? = some o:=(full_of (h.kp k o (full_is e hk) hn)).2
theorem SpO.cred (h : SpO W w0 a s s' X) {l1 l2 : List (StA × Strm)} {xa : StA} {x : Strm} {oa : OutA} {o : OutP} (hl : s'.ss = l1 ++ (xa,x) :: l2) (ho : xa.o = some oa) (hxo : x.out = some o) (hO : OutIn (full W X) oa o) (n : Int) (hB : Blk oa.cb (o.cr.raise n).cells 161 X Y) :
  SpO W w0 a s { s' with ss:=l1 ++ (xa,spX n x) :: l2 } Y:=by
 have hm:=Mem.full h.be
 have hx:=h.st.li.all (xa,x) (by rw [hl];simp)
 obtain ⟨H1,O,T⟩:=hO.setC hm hB (hO.cr.raise n)
 obtain ⟨X2,T2⟩:=hx.turnO ho hxo T O rfl
 rw [StA.eqO ho] at X2 T2
 have e : ({ x with out:=some { o with cr:=o.cr.raise n } } : Strm) = spX n x:=by
  unfold spX;rw [hxo];rfl
 rw [e] at X2
 obtain ⟨S3,T3⟩:=h.st.turnS hm hl T2 X2 rfl rfl
 exact h.turn T3 S3
end
end
end Go.Proofs.YthckbmcmdcemkaaGreatDoor.stm
