/- Texts of this claim, one behind the other: Ma. -/
import Derived.Test.YthckbmcmdcemkaaGreatDoorBs12
set_option maxRecDepth 100000
set_option maxHeartbeats 16000000
set_option linter.unusedSimpArgs false
set_option linter.unusedVariables false
namespace Go.Proofs.YthckbmcmdcemkaaGreatDoor.stm
section
open Go.RowKit
structure Mem (W w : World) (H : Nat → Option Obj) : Prop where
 below : Below W.heap.size W w
 far : ∀ k o,H k = some o → w.heap[k]? = some o ∧ W.heap.size ≤ k
structure To (W w' : World) (H H' : Nat → Option Obj) (f f' : Nat → Prop) : Prop where
 mem : Mem W w' H'
 kp : ∀ k o,H k = some o → ¬ f k → H' k = some o
 nw : ∀ k,f' k → f k ∨ H k = none
section
variable {W w w' w1 w2 : World} {H H' H1 H2 : Nat → Option Obj} {f f' f1 f2 g g' : Nat → Prop}
theorem Mem.at (h : Mem W w H) {k : Nat} {o : Obj} (hk : H k = some o) : w.heap[k]? = some o:=(h.far k o hk).1
theorem Mem.lt (h : Mem W w H) {k : Nat} {o : Obj} (hk : H k = some o) : k < w.heap.size:=heap_lt (h.at hk)
theorem Mem.fresh (h : Mem W w H) {k : Nat} (hk : w.heap.size ≤ k) : H k = none:=by
 cases e : H k with
 | none=>rfl
 | some o=>have:=h.lt e;omega
theorem Mem.same (h : Mem W w H) (hb : Below w.heap.size w w') : Mem W w' H:=
 ⟨h.below.trans (hb.mono h.below.size),fun k o hp=>⟨heap_below hb (h.far k o hp).1,(h.far k o hp).2⟩⟩
theorem Mem.drew (h : Mem W w H) : Mem W w.drew H:=h.same (Below.refl _ w).drew
theorem Mem.nil (h : Below W.heap.size W w) : Mem W w (fun _=>none):=⟨h,fun k o e=>by cases e⟩
theorem Mem.sub (h : Mem W w H) (hs : ∀ k o,H' k = some o → H k = some o) : Mem W w H':=⟨h.below,fun k o e=>h.far k o (hs k o e)⟩
theorem To.refl (h : Mem W w H) (f : Nat → Prop) : To W w H H f f:=⟨h,fun _ _ e _=>e,fun _ e=>.inl e⟩
theorem To.trans (h : To W w1 H H1 f f1) (k : To W w2 H1 H2 f1 f2) : To W w2 H H2 f f2:=by
 refine ⟨k.mem,fun j o e hn=>k.kp j o (h.kp j o e hn) (fun c=>?_),fun j c=>?_⟩
 ·rcases h.nw j c with c | c
  ·exact hn c
  ·rw [c] at e;cases e
 ·rcases k.nw j c with c | c
  ·exact h.nw j c
  ·rcases Classical.em (f j) with d | d
   ·exact .inl d
   ·cases e : H j with
    | none=>exact .inr rfl
    | some o=>rw [h.kp j o e d] at c;cases c
theorem To.wide (h : To W w' H H' f f') (hf : ∀ k,f k → g k) (hg : ∀ k,g' k → f' k ∨ g k ∨ H k = none) : To W w' H H' g g':=
 ⟨h.mem,fun k o e hn=>h.kp k o e (fun c=>hn (hf k c)),fun k c=>by
  rcases hg k c with c | c | c
  ·rcases h.nw k c with c | c
   ·exact .inl (hf k c)
   ·exact .inr c
  ·exact .inl c
  ·exact .inr c⟩
theorem To.same (h : To W w H H' f f') (hb : Below w.heap.size w w') : To W w' H H' f f':=⟨h.mem.same hb,h.kp,h.nw⟩
open Classical in
noncomputable def ovr (H : Nat → Option Obj) (f g : Nat → Prop) (w' : World) : Nat → Option Obj:=fun k=>if g k then w'.heap[k]? else if f k then none else H k
theorem ovr_in {k : Nat} (h : g k) : ovr H f g w' k = w'.heap[k]?:=if_pos h
theorem ovr_at {k : Nat} {o : Obj} (h : g k) (ho : w'.heap[k]? = some o) : ovr H f g w' k = some o:=(ovr_in h).trans ho
theorem To.ovr (hm : Mem W w H) (hc : Chg f w w') (hf : ∀ k,f k → W.heap.size ≤ k) (hg : ∀ k,g k → f k ∨ w.heap.size ≤ k) : To W w' H (ovr H f g w') f g:=by
 have hws:=hm.below.size
 refine ⟨⟨hc.toBelow hm.below hf,fun k o e=>?_⟩,fun k o e hn=>?_,fun k c=>?_⟩
 ·unfold stm.ovr at e
  split at e
  ·rename_i c
   refine ⟨e,?_⟩
   rcases hg k c with c | c
   ·exact hf k c
   ·omega
  ·split at e
   ·cases e
   ·rename_i c;exact ⟨hc.heap (hm.at e) c,(hm.far k o e).2⟩
 ·have hlt:=hm.lt e
  unfold stm.ovr
  rw [if_neg (fun c=>(hg k c).elim hn (fun c=>by omega)),if_neg hn]
  exact e
 ·rcases hg k c with c | c
  ·exact .inl c
  ·exact .inr (hm.fresh c)
theorem To.blk (hm : Mem W w H) {b : Nat} {o : Obj} (hb : H b = some o) {cs : Array Value} {T : TypeId} (hB : Blk b cs T w w') : ∃ H',To W w' H H' (· = b) (· = b) ∧ H' b = some (.cells cs T (0,0)):=
 ⟨_,To.ovr hm (Chg.grown hB.2 rfl) (fun k e=>by subst e;exact (hm.far _ _ hb).2) (fun k e=>.inl e),ovr_at rfl hB.1⟩
theorem To.set (hm : Mem W w H) {b : Nat} {cs : Array Value} {T : TypeId} (hb : H b = some (.cells cs T (0,0))) (i : Nat) (v : Value) : ∃ H',To W (w.setCell ⟨b,i,none⟩ v) H H' (· = b) (· = b) ∧ H' b = some (.cells (cs.setIfInBounds i v) T (0,0)):=
 To.blk hm hb ((Blk.start (hm.at hb)).set i v)
theorem To.alloc (hm : Mem W w H) (o : Obj) : ∃ H',To W (w.alloc o) H H' (fun _=>False) (· = w.heap.size) ∧ H' w.heap.size = some o:=
 ⟨_,To.ovr hm (Chg.below ((Below.refl _ w).alloc (Nat.le_refl _) o)) (fun _ e=>e.elim) (fun k e=>.inr (by omega)),ovr_at rfl (heap_alloc_new w o)⟩
theorem To.new (hm : Mem W w H) (hb : Below w.heap.size w w') (hg : ∀ k,g k → w.heap.size ≤ k) : To W w' H (stm.ovr H (fun _=>False) g w') (fun _=>False) g:=
 To.ovr hm (Chg.below hb) (fun _ e=>e.elim) (fun k e=>.inr (hg k e))
end
def RowH (H : Nat → Option Obj) (e : TypeId) (size : Nat) (v : Value) (n : Nat) (xs : List Value) : Prop:=
 xs.length = n * size ∧ ((v = .slice none 0 0 ∧ n = 0) ∨ ∃ (g cap : Nat) (cur : Array Value),v = .slice (some ⟨g,0,none⟩) n cap ∧ H g = some (.cells cur e (0,0)) ∧ n ≤ cap ∧ cap ≤ maxLen ∧ cur.size = cap * size ∧ cur.toList.take (n * size) = xs)
section
variable {W w w' : World} {H H' : Nat → Option Obj} {e : TypeId} {size n : Nat} {v : Value} {xs : List Value}
theorem RowH.nil (H : Nat → Option Obj) (e : TypeId) (size : Nat) : RowH H e size (.slice none 0 0) 0 []:=⟨by simp,.inl ⟨rfl,rfl⟩⟩
theorem RowH.own (h : RowH H e size v n xs) (hm : Mem W w H) : w.ownsRow W.heap.size e size v n xs:=by
 refine ⟨h.1,?_⟩
 rcases h.2 with h | ⟨g,cap,cur,h1,h2,h3,h4,h5,h6⟩
 ·exact .inl h
 ·exact .inr ⟨g,cap,cur,h1,(hm.far g _ h2).2,(hm.far g _ h2).1,h3,h4,h5,h6⟩
theorem RowH.of {base : Nat} (h : w'.ownsRow base e size v n xs) (hs : ∀ k,v.ownBlock = some k → H' k = w'.heap[k]?) : RowH H' e size v n xs:=by
 refine ⟨h.1,?_⟩
 rcases h.2 with h | ⟨g,cap,cur,h1,h2,h3,h4,h5,h6,h7⟩
 ·exact .inl h
 ·exact .inr ⟨g,cap,cur,h1,(hs g (by rw [h1];rfl)).trans h3,h4,h5,h6,h7⟩
theorem RowH.keep (h : RowH H e size v n xs) (hs : ∀ k o,v.ownBlock = some k → H k = some o → H' k = some o) : RowH H' e size v n xs:=by
 refine ⟨h.1,?_⟩
 rcases h.2 with h | ⟨g,cap,cur,h1,h2,h3,h4,h5,h6⟩
 ·exact .inl h
 ·exact .inr ⟨g,cap,cur,h1,hs g _ (by rw [h1];rfl) h2,h3,h4,h5,h6⟩
theorem RowH.block (h : RowH H e size v n xs) {k : Nat} (hk : v.ownBlock = some k) : ∃ cur,H k = some (.cells cur e (0,0)):=by
 rcases h.2 with ⟨rfl,_⟩ | ⟨g,cap,cur,rfl,h2,_⟩
 ·cases hk
 ·have : g = k:=by simpa [Value.ownBlock] using hk
  subst this;exact ⟨cur,h2⟩
end
theorem own_weak {w : World} {base base' : Nat} {e : TypeId} {size : Nat} {v : Value} {n : Nat} {xs : List Value} (h : w.ownsRow base e size v n xs) (hb : base' ≤ base) : w.ownsRow base' e size v n xs:=by
 refine ⟨h.1,?_⟩
 rcases h.2 with h | ⟨g,cap,cur,h1,h2,h3⟩
 ·exact .inl h
 ·exact .inr ⟨g,cap,cur,h1,Nat.le_trans hb h2,h3⟩
def BufIn (H : Nat → Option Obj) (b : Nat) (X : Wh) (f : Nat → Prop) : Prop:=
 X.Ok ∧ ∃ vd vs,H b = some (.cells (X.buf.cells vd vs) 209 (0,0)) ∧ RowH H 5 1 vd X.buf.data.length (X.buf.data.map (.int .u8)) ∧ RowH H 207 1 vs X.buf.st.length (X.buf.st.map (.int .u8)) ∧ ∀ k,f k ↔ (k = b ∨ vd.ownBlock = some k ∨ vs.ownBlock = some k)
section
variable {W w w' : World} {H H' : Nat → Option Obj} {b : Nat} {X X' : Wh} {f f' : Nat → Prop}
theorem BufIn.dom (h : BufIn H b X f) {k : Nat} (hk : f k) : ∃ o,H k = some o:=by
 obtain ⟨_,vd,vs,h1,h2,h3,h4⟩:=h
 rcases (h4 k).1 hk with rfl | e | e
 ·exact ⟨_,h1⟩
 ·obtain ⟨c,hc⟩:=h2.block e;exact ⟨_,hc⟩
 ·obtain ⟨c,hc⟩:=h3.block e;exact ⟨_,hc⟩
theorem BufIn.keep (h : BufIn H b X f) (hs : ∀ k o,f k → H k = some o → H' k = some o) : BufIn H' b X f:=by
 obtain ⟨h0,vd,vs,h1,h2,h3,h4⟩:=h
 exact ⟨h0,vd,vs,hs _ _ ((h4 _).2 (.inl rfl)) h1,h2.keep (fun k o e=>hs k o ((h4 _).2 (.inr (.inl e)))),h3.keep (fun k o e=>hs k o ((h4 _).2 (.inr (.inr e)))),h4⟩
theorem BufIn.fb (h : BufIn H b X f) : f b:=by obtain ⟨_,vd,vs,h1,h2,h3,h4⟩:=h;exact (h4 _).2 (.inl rfl)
theorem BufIn.inv (h : BufIn H b X f) (hm : Mem W w H) : Inv w b f X.buf:=by
 obtain ⟨_,vd,vs,h1,h2,h3,h4⟩:=h
 refine ⟨vd,vs,hm.at h1,?_,?_,(h4 _).2 (.inl rfl),fun k hk=>⟨(h4 _).2 (.inr (.inl hk)),?_⟩,fun k hk=>⟨(h4 _).2 (.inr (.inr hk)),?_,?_⟩⟩
 ·exact own_weak (h2.own hm) (Nat.zero_le _)
 ·exact own_weak (h3.own hm) (Nat.zero_le _)
 ·rintro rfl;obtain ⟨c,hc⟩:=h2.block hk;rw [h1] at hc;simp at hc
 ·rintro rfl;obtain ⟨c,hc⟩:=h3.block hk;rw [h1] at hc;simp at hc
 ·intro hk2;obtain ⟨c,hc⟩:=h3.block hk;obtain ⟨c2,hc2⟩:=h2.block hk2;rw [hc] at hc2;simp at hc2
theorem BufIn.step (h : BufIn H b X f) (hm : Mem W w H) (hc : Chg f w w') (hi : Inv w' b (Ext f w w') X'.buf) (ho : X'.Ok) : ∃ H' f',To W w' H H' f f' ∧ BufIn H' b X' f':=by
 obtain ⟨vd,vs,hr⟩:=hi
 refine ⟨_,fun k=>k = b ∨ vd.ownBlock = some k ∨ vs.ownBlock = some k,To.ovr hm hc (fun k hk=>?_) (fun k hk=>?_),ho,vd,vs,ovr_at (.inl rfl) hr.obj,RowH.of hr.rd (fun k hk=>ovr_in (.inr (.inl hk))),RowH.of hr.rs (fun k hk=>ovr_in (.inr (.inr hk))),fun k=>Iff.rfl⟩
 ·obtain ⟨o,e⟩:=h.dom hk;exact (hm.far k o e).2
 ·rcases hk with rfl | hk | hk
  ·exact .inl h.fb
  ·exact (hr.fd k hk).1.imp id (·.1)
  ·exact (hr.fs k hk).1.imp id (·.1)
end
end
end Go.Proofs.YthckbmcmdcemkaaGreatDoor.stm
