/- Texts of this claim, one behind the other: Sf Sg Ps Mv. -/
import Derived.Test.YthckbmcmdcemkaaGreatDoorBs34
import Derived.Test.YthckbmcmdcemkaaGreatDoorBs35
import Derived.Test.YthckbmcmdcemkaaGreatDoorBs20
import Derived.Test.YthckbmcmdcemkaaGreatDoorBs31
import Derived.Test.YthckbmcmdcemkaaGreatDoorBs26
import Derived.Defers
import Derived.Test.YthckbmcmdcemkaaGreatDoorBs18
set_option maxRecDepth 100000
set_option maxHeartbeats 16000000
set_option linter.unusedSimpArgs false
set_option linter.unusedVariables false
namespace Go.Proofs.YthckbmcmdcemkaaGreatDoor.stm
section
open Go.RowKit
section
variable {W w w' w0 X Y : World} {H H' : Nat → Option Obj} {a : SetA} {s s' : SetS} {r1 r2 : Nat} {v1 v2 : Value}
theorem SetIn.no (h : SetIn H a s) {k : Nat} {o : Obj} (hk : H k = some o) (ho : o.isCells = false) (hM : k ≠ a.M) : ¬ s.foot a k:=fun c=>by
 obtain ⟨cs,T,e,_⟩:=h.isQ c hM
 rw [hk] at e;cases e;cases ho
structure AcO (W w0 : World) (a : SetA) (s : SetS) (r1 r2 : Nat) (s' : SetS) (X : World) (v1 v2 : Value) : Prop where
 be : Below W.heap.size W X
 st : SetIn (full W X) a s'
 kp : ∀ k o,full W w0 k = some o → ¬ s.foot a k → k ≠ r1 → k ≠ r2 → full W X k = some o
 nw : ∀ k,s'.foot a k → s.foot a k ∨ full W w0 k = none
 x1 : X.heap[r1]? = some (.cells #[v1] 3 (0,0))
 x2 : X.heap[r2]? = some (.cells #[v2] 4 (0,0))
 M : a.M < w0.heap.size
theorem AcO.own {row : Option Nat} (h : AcO W w0 a s r1 r2 s' X v1 v2) (hg : X.grownBy Y row) (hr : ∀ k,row = some k → w0.heap.size ≤ k ∧ W.heap.size ≤ k ∧ ∃ o,X.heap[k]? = some o ∧ o.isCells = false) : AcO W w0 a s r1 r2 s' Y v1 v2:=by
 have hk : ∀ k o,X.heap[k]? = some o → row ≠ some k → Y.heap[k]? = some o:=fun k o e hn=>(hg.block k (heap_lt e) (fun c=>hn c.symm)).trans e
 have hM:=h.M
 have z : ∀ {k : Nat} {cs : Array Value} {T : TypeId},X.heap[k]? = some (.cells cs T (0,0)) → row ≠ some k:=fun {k cs T} e c=>by
  obtain ⟨_,_,o2,q2,q3⟩:=hr _ c
  rw [e] at q2;cases q2;cases q3
 refine ⟨h.be.grown hg h.be.size (fun k e=>(hr k e).2.1),h.st.keep (fun k o hf e=>?_),fun k o e hn h1 h2=>?_,h.nw,hk _ _ h.x1 (z h.x1),hk _ _ h.x2 (z h.x2),h.M⟩
 ·obtain ⟨e2,e1⟩:=full_of e
  refine full_is (hk k o e1 (fun c=>?_)) e2
  obtain ⟨q1,_,o2,q2,q3⟩:=hr k c
  rw [e1] at q2;cases q2
  exact h.st.no e q3 (by omega) hf
 ·obtain ⟨e2,e1⟩:=full_of (h.kp k o e hn h1 h2)
  refine full_is (hk k o e1 (fun c=>?_)) e2
  have:=(hr k c).1
  have : k < w0.heap.size:=heap_lt (full_of e).2
  omega
theorem AcO.out (h : AcO W w0 a s r1 r2 s' X v1 v2) (hm : Mem W w H) (hb : Below w.heap.size w w0) (h1 : w.heap.size ≤ r1) (h2 : w.heap.size ≤ r2) : ∃ H',To W X H H' (s.foot a) (s'.foot a) ∧ SetIn H' a s':=by
 refine ⟨_,⟨Mem.full h.be,fun k o e hn=>?_,fun k hk=>?_⟩,h.st⟩
 ·have hlt:=hm.lt e
  exact h.kp k o (full_is ((hb.block k hlt).trans (hm.at e)) (hm.far k o e).2) hn (by omega) (by omega)
 ·rcases h.nw k hk with c | c
  ·exact .inl c
  ·refine .inr ?_
   cases e : H k with
   | none=>rfl
   | some o=>
    rw [full_is ((hb.block k (hm.lt e)).trans (hm.at e)) (hm.far k o e).2] at c
    cases c
theorem AcO.mk2 (hT : To W X (full W w0) H' (s.foot a) (s'.foot a)) (hS : SetIn H' a s') (hM : a.M < w0.heap.size) (hne : r1 ≠ r2) (l1 : W.heap.size ≤ r1) (l2 : W.heap.size ≤ r2) {u1 u2 : Value} (x1 : w0.heap[r1]? = some (.cells #[u1] 3 (0,0))) (x2 : w0.heap[r2]? = some (.cells #[u2] 4 (0,0))) (f1 : ¬ s.foot a r1) (f2 : ¬ s.foot a r2) (v1 v2 : Value) :
  AcO W w0 a s r1 r2 s' ((X.setCell ⟨r1,0,none⟩ v1).setCell ⟨r2,0,none⟩ v2) v1 v2:=by
 obtain ⟨d1,g1⟩:=hT.box x1 l1 f1
 obtain ⟨d2,g2⟩:=hT.box x2 l2 f2
 have e2 : (X.setCell ⟨r1,0,none⟩ v1).heap[r2]? = some (.cells #[u2] 4 (0,0)):=(heap_setCell_other X _ _ _ (show r2 ≠ r1 from Ne.symm hne)).trans d2
 have hk : ∀ k o,X.heap[k]? = some o → k ≠ r1 → k ≠ r2 → ((X.setCell ⟨r1,0,none⟩ v1).setCell ⟨r2,0,none⟩ v2).heap[k]? = some o:=fun k o e h1 h2=>(heap_setCell_other _ _ _ _ h2).trans ((heap_setCell_other X _ _ _ h1).trans e)
 refine ⟨(hT.mem.below.setCell (p:=⟨r1,0,none⟩) l1 v1).setCell (p:=⟨r2,0,none⟩) l2 v2,(hS.keep (fun k o _ e=>full_at hT.mem e)).keep (fun k o hf e=>?_),fun k o e hn h1 h2=>?_,hT.nw,?_,heap_setCell_same _ r2 0 _ 4 v2 e2,hM⟩
 ·obtain ⟨q2,q1⟩:=full_of e
  exact full_is (hk k o q1 (fun c=>g1 (c ▸ hf)) (fun c=>g2 (c ▸ hf))) q2
 ·obtain ⟨q1,q2⟩:=hT.mem.far k o (hT.kp k o e hn)
  exact full_is (hk k o q1 h1 h2) q2
 ·exact (heap_setCell_other _ _ _ _ (show r1 ≠ r2 from hne)).trans (heap_setCell_same X r1 0 _ 3 v1 d1)
end
end
section
open Go.RowKit
attribute [local go_sem] Oper.semAt_some
section
variable {W w w' w0 : World} {H H' : Nat → Option Obj} {a : SetA} {s s' : SetS}
def acE (s : SetS) (e : StA × Strm) : Bool:=!isLoc s.cl e.2.id && !e.2.acc
def acB (s : SetS) (id : Nat) : Bool:=s.ss.any fun e=>decide (e.2.id = id) && acE s e
theorem acB_at {l1 l2 : List (StA × Strm)} {e : StA × Strm} (hl : s.ss = l1 ++ e :: l2) (h : Inc s.ss) : acB s e.2.id = acE s e:=by
 rw [hl] at h
 obtain ⟨h1,h2⟩:=h.apart
 have z : ∀ l : List (StA × Strm),(∀ f ∈ l,f.2.id ≠ e.2.id) → (l.any fun f=>decide (f.2.id = e.2.id) && acE s f) = false:=fun l hl=>by
  rw [List.any_eq_false]
  intro f hf
  simp [hl f hf]
 unfold acB
 rw [hl,List.any_append,List.any_cons,z _ h1,z _ h2]
 simp
theorem ac_find {pre : List Nat} {id : Nat} (h : Inc s.ss) (hp : pre ++ [id] <+: s.ss.map (·.2.id)) (h0 : ∀ i ∈ pre,acB s i = false) {l1 l2 : List (StA × Strm)} {e : StA × Strm} (hl : s.ss = l1 ++ e :: l2) (hid : e.2.id = id) (h1 : acB s id = true) : s.ss.find? (acE s) = some e:=by
 have he : acE s e = true:=by rw [← acB_at hl h,hid];exact h1
 have hlen : l1.map (·.2.id) = pre:=by
  have h3 : s.ss.map (·.2.id) = l1.map (·.2.id) ++ id :: l2.map (·.2.id):=by rw [hl,List.map_append,List.map_cons,hid]
  obtain ⟨t,ht⟩:=hp
  rw [h3] at ht
  have nd : (s.ss.map (·.2.id)).Pairwise (· < ·):=by rw [List.pairwise_map];exact h
  rw [h3] at nd
  have key : ∀ (p q : List Nat) (x : Nat) (u v : List Nat),p ++ x :: u = q ++ x :: v → (q ++ x :: v).Pairwise (· < ·) → p = q:=by
   intro p
   induction p with
   | nil=>
    intro q x u v e pw
    cases q with
    | nil=>rfl
    | cons y q=>
     simp at e
     rw [List.cons_append,List.pairwise_cons] at pw
     have:=pw.1 x (by simp)
     omega
   | cons y p ih=>
    intro q x u v e pw
    cases q with
    | nil=>
     simp at e
     rw [List.nil_append,List.pairwise_cons] at pw
     have:=pw.1 x (by rw [← e.2];simp)
     omega
    | cons z q=>
     simp only [List.cons_append,List.cons.injEq] at e
     rw [List.cons_append,List.pairwise_cons] at pw
     rw [e.1,ih q x u v e.2 pw.2]
  exact (key pre (l1.map (·.2.id)) id t (l2.map (·.2.id)) (by rw [← ht];simp) nd).symm
 rw [hl,List.find?_append,List.find?_eq_none.2 (fun f hf=>?_)]
 ·simp [he]
 ·have hf2 : f.2.id ∈ pre:=by rw [← hlen];exact List.mem_map_of_mem hf
  have:=h0 _ hf2
  obtain ⟨m1,m2,hm⟩:=List.append_of_mem (show f ∈ s.ss by rw [hl];simp [hf])
  rw [acB_at hm h] at this
  simp [this]
theorem ac_none (h : Inc s.ss) (h0 : ∀ i ∈ s.ss.map (·.2.id),acB s i = false) : s.ss.find? (acE s) = none:=by
 rw [List.find?_eq_none]
 intro f hf
 obtain ⟨m1,m2,hm⟩:=List.append_of_mem hf
 have:=h0 f.2.id (List.mem_map_of_mem hf)
 rw [acB_at hm h] at this
 simp [this]
theorem ac_boxes (w : World) (o1 o2 o3 : Obj) : (((w.alloc o1).alloc o2).alloc o3).heap[w.heap.size]? = some o1 ∧ (((w.alloc o1).alloc o2).alloc o3).heap[w.heap.size + 1]? = some o2 ∧ (((w.alloc o1).alloc o2).alloc o3).heap[w.heap.size + 1 + 1]? = some o3 ∧ Below w.heap.size w (((w.alloc o1).alloc o2).alloc o3) ∧ (((w.alloc o1).alloc o2).alloc o3).heap.size = w.heap.size + 3:=by
 have hz1 : (w.alloc o1).heap.size = w.heap.size + 1:=World.size_alloc ..
 have hz2 : ((w.alloc o1).alloc o2).heap.size = w.heap.size + 1 + 1:=by rw [World.size_alloc,hz1]
 have hb1:=(Below.refl w.heap.size w).alloc (Nat.le_refl _) o1
 have e1:=heap_alloc_new w o1
 have e2:=heap_alloc_new (w.alloc o1) o2
 have e3:=heap_alloc_new ((w.alloc o1).alloc o2) o3
 have q2 : Below (w.alloc o1).heap.size (w.alloc o1) ((w.alloc o1).alloc o2):=bz0.alloc (Nat.le_refl _) o2
 have q3 : Below ((w.alloc o1).alloc o2).heap.size ((w.alloc o1).alloc o2) (((w.alloc o1).alloc o2).alloc o3):=bz0.alloc (Nat.le_refl _) _
 have f2:=heap_below q3 e2
 rw [hz1] at f2
 rw [hz2] at e3
 exact ⟨heap_below q3 (heap_below q2 e1),f2,e3,(hb1.trans (q2.mono hb1.size)).trans (q3.mono (by rw [hz2];omega)),by rw [World.size_alloc,hz2]⟩
def AcP (W : World) (H : Nat → Option Obj) (a : SetA) (s : SetS) : Option (StA × Strm) → Ending → World → Prop
 | none,e,w'=>e = .returned (.tuple #[.int .i64 0,.bool false]) ∧ ∃ H',To W w' H H' (s.foot a) (s.foot a) ∧ SetIn H' a s
 | some (xa,x),e,w'=>e = .returned (.tuple #[.int .i64 x.id,.bool true]) ∧ ∃ l1 l2,s.ss = l1 ++ (xa,x) :: l2 ∧ ∃ H',To W w' H H' (s.foot a) (SetS.foot { s with ss:=l1 ++ (xa,{ x with acc:=true }) :: l2 } a) ∧ SetIn H' a { s with ss:=l1 ++ (xa,{ x with acc:=true }) :: l2 }
def AcX (W W4 : World) (a : SetA) (s : SetS) (n : Nat) (pre : List (InE (ents s.ss))) (X : World) : Prop:=∃ (pre0 : List (InE (ents s.ss))) (y : InE (ents s.ss)) (l1 : List (StA × Strm)) (xa : StA) (x : Strm) (l2 : List (StA × Strm)),pre = pre0 ++ [y] ∧ (∀ z ∈ pre0,acB s z.1.1 = false) ∧ acB s y.1.1 = true ∧ s.ss = l1 ++ (xa,x) :: l2 ∧ x.id = y.1.1 ∧ AcO W W4 a s (n + 1) (n + 1 + 1) { s with ss:=l1 ++ (xa,{ x with acc:=true }) :: l2 } X (.int .i64 x.id) (.bool true)
theorem Accept_any (hm : Mem W w H) (hs : SetIn H a s) (hln : s.ss.length ≤ 100000) :
  Calls Tryz.prog 25 #[ptr a.sb] w (AcP W H a s (s.ss.find? (acE s))):=by
 obtain ⟨x0,x1,x2,x3,x4⟩:=ac_boxes w (.cells #[.pointer (some ⟨a.sb,0,none⟩)] 25) (.cells #[.int .i64 0] 3) (.cells #[.bool false] 4)
 obtain ⟨W0,hW0⟩ : ∃ y,((w.alloc (.cells #[.pointer (some ⟨a.sb,0,none⟩)] 25)).alloc (.cells #[.int .i64 0] 3)).alloc (.cells #[.bool false] 4) = y:=⟨_,rfl⟩
 rw [hW0] at x0 x1 x2 x3 x4
 obtain ⟨n,hn⟩ : ∃ y,w.heap.size = y:=⟨_,rfl⟩
 have hmW:=hm.below.size
 have HH:=Lib.hid (And.intro hm (And.intro hs (And.intro x3 hn)))
 have HX:=Lib.hid (And.intro x0 (And.intro x1 x2))
 rw [hn] at x0 x1 x2 x4 hmW
 have c0 : W0.cell? ⟨n,0,none⟩ = some (.pointer (some ⟨a.sb,0,none⟩)):=at_whole x0 0 rfl
 have hMl:=(by obtain ⟨mo,m1,_⟩:=hs.mp;exact hm.lt m1 : a.M < w.heap.size)
 have hsl:=hm.lt hs.sb
 rw [hn] at hMl hsl
 have hinc : Inc s.ss:=hs.li.up
 have hli:=hs.li
 clear hm hs x0 x1 x2 x3
 unfold ptr at *
 refine (callsIn_wide (n:=20)).1 ?_
 refine callsIn_of_wp_marks Tryz.func25 rfl trivial ?_ rfl
 simp only [Tryz.ntmps25,List.size_toArray,List.length_cons,List.length_nil,Nat.reduceAdd,Nat.reduceSub,Array.replicate_succ,Array.replicate_zero,List.push_toArray,List.append_toArray,List.nil_append,List.cons_append]
 refine wpIn_wide.2 ?_
 go_wp2_with (go_at_call 62;refine (all_any _ _).mono ?_;rintro e wv ⟨rfl,rfl⟩)
 obtain ⟨W4,hW4⟩ : ∃ y,W0.alloc (.cells #[.pointer (some ⟨a.sb,0,none⟩)] 25) = y:=⟨_,rfl⟩
 have hB04 : Below W0.heap.size W0 W4:=by rw [← hW4];exact (Below.refl _ W0).alloc (Nat.le_refl _) _
 have xB : W4.heap[n + 3]? = some (.cells #[.pointer (some ⟨a.sb,0,none⟩)] 25 (0,0)):=by rw [← hW4,← x4];exact heap_alloc_new W0 _
 have hz4 : W4.heap.size = W0.heap.size + 1:=by rw [← hW4,World.size_alloc]
 rw [hW4]
 have hbw : Below w.heap.size w W4:=HH.out.2.2.1.trans (hB04.mono HH.out.2.2.1.size)
 have hm4 : Mem W W4 H:=HH.out.1.same hbw
 have hmp : MapE W4 a.M (ents s.ss).length (ents s.ss):=by
  obtain ⟨mo,m1,_,m3⟩:=HH.out.2.1.mp
  exact m3 W4 (hm4.at m1)
 have cB:=at_whole xB 0 rfl
 have cb13:=HH.out.2.1.c13 hm4
 have hupE : UpE 1152921504606846976 (ents s.ss):=⟨by unfold ents;rw [List.pairwise_map];exact hinc,fun p hp=>by
  obtain ⟨l1,xa,x,l2,e,e2,_⟩:=ents_split hp
  rw [← e2];exact hli.bd (xa,x) (by rw [e];simp)⟩
 have hll : (ents s.ss).length ≤ 1000000:=by unfold ents;simp;omega
 have hF4 : SetIn (full W W4) a s:=HH.out.2.1.keep (fun k o _ e=>full_at hm4 e)
 have HW:=Lib.hid (And.intro hbw (And.intro hm4 (And.intro hF4 (And.intro xB hB04))))
 clear hF4 hm4 xB hB04 hW4 hbw
 refine (wpIn_wide (n:=20)).1 ?_
 refine wpIn_rangeFunc_ownH rfl (by decide) (gf:=126) (lb:=#[.pointer (some ⟨n + 3,0,none⟩)]) rfl trivial (enters_of Tryz.func126 (by kernel_rfl) rfl)
  (all_stops2 19 (by decide) (n + 3) a.sb a.M (ents s.ss).length W4.heap.size (ents s.ss) 1152921504606846976 hupE (by decide) hll W4 (Nat.le_refl _) (by omega) (by omega) (by omega) cB cb13 hmp)
  (fun h k=>h.trans k) (fun X l o o' hl hX hc hw=>KpS.put hX hc (by omega) (by omega) (by omega)) bz0 (fun _=>rfl)
  (fun pre X=>Below W4.heap.size W4 X ∧ ∀ y ∈ pre,acB s (y : InE (ents s.ss)).1.1 = false)
  (fun c pre X=>c = .ret ∧ AcX W W4 a s n pre X)
  (OwnFrom.and (ownFrom_below (Nat.le_refl _) (Nat.le_refl _)) (fun pre X Y row h _ _=>h))
  (fun c pre X Y row h hg hr=>by obtain ⟨h1,pre0,y,l1,xa,x,l2,e1,e2,e3,e4,e5,e6⟩:=h;exact ⟨h1,pre0,y,l1,xa,x,l2,e1,e2,e3,e4,e5,e6.own hg (fun k e=>by obtain ⟨q1,q2⟩:=hr k e;exact ⟨q1,by have:=HW.out.1.size;omega,q2⟩)⟩)
  ⟨Below.refl _ _,fun y hy=>by cases hy⟩
  (fun x a' X=>a' = { tmps:=#[.pointer (some ⟨a.sb,0,none⟩),.pointer (some ⟨n,0,none⟩),.pointer (some ⟨n + 1,0,none⟩),.pointer (some ⟨n + 1 + 1,0,none⟩),.pointer (some ⟨x.1.2,0,none⟩),.pointer (some ⟨a.sb,0,none⟩),.bool false,.pointer (some ⟨a.sb,0,none⟩),.func (.func 126) #[] #[.pointer (some ⟨n + 3,0,none⟩)],.pointer (some ⟨x.1.2,0,none⟩),undef,undef,undef,undef,undef,undef,undef,undef,undef,undef,undef,undef,undef,undef,undef,undef,undef,undef,undef,undef,undef],defers:=[] })
  (fun x a' s A C row hs hg hr=>hs)
  ?assign ?body ?done ?stop
 case assign=>
  rintro ly pre ⟨⟨id,xb⟩,hx⟩ X K hi hK
  simp only [encE,eP] at hK ⊢
  have H1:=Lib.hid (And.intro hi hK)
  clear hi hK
  gi_wp2
  exact H1.out.2 _ _ ((KeepsOthers.refl _).from _) (KpS.refl _ _ _ _ _) H1.out.1 rfl
 case body=>
  rintro ly pre ⟨⟨id,xb⟩,hx⟩ a' X hl ⟨r,hr⟩ ⟨hbX,hpre⟩ rfl hlen
  obtain ⟨l1,xa,x,l2,hsp,hid,hxb⟩:=ents_split hx
  simp only at hid hxb
  subst hid hxb
  have hB4:=Lib.hid hbX
  have hst : StIn H xa x:=HH.out.2.1.li.all (xa,x) (by rw [hsp];simp)
  have hmX : Mem W X H:=HW.out.2.1.same hbX
  have hidb : x.id < 1152921504606846976:=hli.bd (xa,x) (by rw [hsp];simp)
  have hac:=acB_at hsp hinc
  have Q0:=Lib.hid (show X.cell? ⟨n,0,none⟩ = some (.pointer (some ⟨a.sb,0,none⟩)) ∧ X.cell? ⟨xa.xb,0,none⟩ = some (.int .i64 x.id) ∧ X.cell? ⟨xa.xb,3,none⟩ = some (.bool x.acc) from ⟨at_whole (heap_below hbX (heap_below HW.out.2.2.2.2 (by have:=HX.out.1;rw [HH.out.2.2.2] at this;exact this))) 0 rfl,hst.c0 hmX,at_whole' (hmX.at hst.xb) rfl⟩)
  have OLD : Hid (∀ w',Below X.heap.size X w' → ∀ p v,X.cell? p = some v → w'.cell? p = some v):=Lib.hid (fun w' hb p v hv=>(hb.cell (World.block_lt_of_cell? _ _ hv)).trans hv)
  have LC:=Lib.hid (fun wx (hb : Below X.heap.size X wx)=>(local_any a.sb x.id s.cl (by omega) wx ((hb.cell (p:=⟨a.sb,0,none⟩) (heap_lt (hmX.at HH.out.2.1.sb))).trans (at_whole' (hmX.at HH.out.2.1.sb) rfl))).mono (fun e w' h=>(⟨h.1,by rw [← h.2];exact Below.refl _ _⟩ : e = _ ∧ Below wx.heap.size wx w')))
  have HP:=Lib.hid (And.intro hpre (And.intro hsp (And.intro hst hmX)))
  obtain ⟨ac,hace⟩ : ∃ q,x.acc = q:=⟨_,rfl⟩
  obtain ⟨lc,hlc⟩ : ∃ q,isLoc s.cl x.id = q:=⟨_,rfl⟩
  unfold acE at hac
  simp only [hlc,hace] at hac
  rw [hace] at Q0
  rw [hlc] at LC
  have HA:=Lib.hid hace
  clear hlc hace hbX hpre hsp hst hmX hr cB cb13 hmp hidb
  have NX : Hid (∀ Y,Below X.heap.size X Y → acB s x.id = false → KeepsFrom W4.heap.size X Y ∧ KpS W4.heap.size (n + 3) a.sb a.M X Y ∧ Below W4.heap.size W4 Y ∧ ∀ y ∈ (pre ++ ([⟨(x.id,xa.xb),hx⟩] : List (InE (ents s.ss)))),acB s (y : InE (ents s.ss)).1.1 = false):=Lib.hid (fun Y hb hno=>by
   have h4:=hB4.out.size
   refine ⟨⟨hb.size,fun k o _ hk _=>heap_below hb hk⟩,KpS.below hb (by omega) (by omega) (by omega),hB4.out.trans (hb.mono h4),fun y hy=>?_⟩
   rcases List.mem_append.1 hy with c | c
   ·exact HP.out.1 y c
   ·rw [List.mem_singleton.1 c];exact hno)
  cases lc with
  | true=>
   have hno : acB s x.id = false:=hac
   gi_wp2_with fail
   refine rea.grow_regionIn 14 (rea.slotG 10 14 0) (fun jj=>(#[.pointer (some ⟨a.sb,0,none⟩),.pointer (some ⟨xa.xb,0,none⟩),.pointer (some ⟨xa.xb,0,none⟩),.pointer (some ⟨xa.xb,0,none⟩),.int .i64 x.id,.bool true,.bool false,.bool false,undef,undef,undef,undef,undef,.bool false] : Array Value)[jj]?.getD undef) (fun _=>trivial) rfl (by kernel_rfl) rfl (fun i d hi h=>by have:=rea.slotG_is h;simp;omega) (fun i j d hi hj h1 h2=>by have:=rea.slotG_is h1;have:=rea.slotG_is h2;omega) ?_ rfl ?_
   ·rintro j o hj ho aa w5 hb ⟨hold,hdep⟩
    have r0:=OLD.out _ hb _ _ Q0.out.1
    have r1:=OLD.out _ hb _ _ Q0.out.2.1
    have r2:=OLD.out _ hb _ _ Q0.out.2.2
    have o1:=hold 1 (fun i hi h=>by have:=rea.slotG_is h;omega)
    have o4:=hold 4 (fun i hi h=>by have:=rea.slotG_is h;omega)
    simp at o1 o4
    have hjj : j = 0 ∨ j = 1 ∨ j = 2 ∨ j = 3 ∨ j = 4 ∨ j = 5 ∨ j = 6 ∨ j = 7 ∨ j = 8 ∨ j = 9 ∨ j = 10 ∨ j = 11 ∨ j = 12 ∨ j = 13:=by omega
    rcases hjj with rfl | rfl | rfl | rfl | rfl | rfl | rfl | rfl | rfl | rfl | rfl | rfl | rfl | rfl
    all_goals (cases ho;simp [Region.binds,rea.slotG] at hdep;refine ⟨rfl,rfl,?_⟩)
    iterate 5 (· first | (refine .inl ⟨(by first | rfl | (simp [Region.wanted,yielded,hdep];done)),fun K hK=>?_⟩;unfold Oper.wpIn;refine ⟨fun f hf=>trivial,?_⟩;simp [go_sem,Act.eval,hdep,o1,o4,r0,r1,r2];exact hK _ bz0) | (refine .inl ⟨rfl,fun K hK=>?_⟩;unfold Oper.wpIn;refine ⟨fun f hf=>trivial,?_⟩;simp [go_sem,Act.eval,o1,o4,r0,r1,r2];exact hK _ bz0))
    ·refine .inl ⟨rfl,fun K hK=>?_⟩;unfold Oper.wpIn;refine ⟨fun f hf=>trivial,?_⟩;simp [execOp,Oper.semAt,Oper.uponIn,resolve,invoke,go_sem,Act.eval,hdep];refine (CallsIn.inRound ly (callsIn_wide.2 (LC.out _ hb))).mono ?_;rintro e w6 ⟨rfl,hb6⟩;exact hK _ hb6
    iterate 2 (· first | (refine .inl ⟨(by first | rfl | (simp [Region.wanted,yielded,hdep];done)),fun K hK=>?_⟩;unfold Oper.wpIn;refine ⟨fun f hf=>trivial,?_⟩;simp [go_sem,Act.eval,hdep,o1,o4,r0,r1,r2];exact hK _ bz0) | (refine .inl ⟨rfl,fun K hK=>?_⟩;unfold Oper.wpIn;refine ⟨fun f hf=>trivial,?_⟩;simp [go_sem,Act.eval,o1,o4,r0,r1,r2];exact hK _ bz0))
    iterate 5 (· exact .inr ⟨(by simp [Region.wanted,yielded,hdep,undef];done),rfl⟩)
    ·first | (refine .inl ⟨(by first | rfl | (simp [Region.wanted,yielded,hdep];done)),fun K hK=>?_⟩;unfold Oper.wpIn;refine ⟨fun f hf=>trivial,?_⟩;simp [go_sem,Act.eval,hdep,o1,o4,r0,r1,r2];exact hK _ bz0) | (refine .inl ⟨rfl,fun K hK=>?_⟩;unfold Oper.wpIn;refine ⟨fun f hf=>trivial,?_⟩;simp [go_sem,Act.eval,o1,o4,r0,r1,r2];exact hK _ bz0)
   rintro w5 hb5
   have HB5:=Lib.hid hb5
   clear hb5
   simp only [rea.setAll,rea.slotG]
   rw [show List.range 14 = [0,1,2,3,4,5,6,7,8,9,10,11,12,13] from rfl]
   simp (decide:=true) only [List.foldl_cons,List.foldl_nil,if_true,Nat.reduceAdd]
   simp (decide:=true) only [List.setIfInBounds_toArray,List.set_cons_succ,List.set_cons_zero,List.getElem?_toArray,List.getElem?_cons_succ,List.getElem?_cons_zero,Option.getD_some]
   gi_wp2
   exact NX.out _ HB5.out hno
  | false=>
   cases ac with
   | true=>
    have hno : acB s x.id = false:=hac
    gi_wp2_with fail
    refine rea.grow_regionIn 14 (rea.slotG 10 14 0) (fun jj=>(#[.pointer (some ⟨a.sb,0,none⟩),.pointer (some ⟨xa.xb,0,none⟩),.pointer (some ⟨xa.xb,0,none⟩),.pointer (some ⟨xa.xb,0,none⟩),.int .i64 x.id,.bool false,.bool true,.bool true,.pointer (some ⟨xa.xb,0,none⟩),.pointer (some ⟨xa.xb,0,none⟩),.pointer (some ⟨xa.xb,3,none⟩),.bool true,.bool false,.bool false] : Array Value)[jj]?.getD undef) (fun _=>trivial) rfl (by kernel_rfl) rfl (fun i d hi h=>by have:=rea.slotG_is h;simp;omega) (fun i j d hi hj h1 h2=>by have:=rea.slotG_is h1;have:=rea.slotG_is h2;omega) ?_ rfl ?_
    ·rintro j o hj ho aa w5 hb ⟨hold,hdep⟩
     have r0:=OLD.out _ hb _ _ Q0.out.1
     have r1:=OLD.out _ hb _ _ Q0.out.2.1
     have r2:=OLD.out _ hb _ _ Q0.out.2.2
     have o1:=hold 1 (fun i hi h=>by have:=rea.slotG_is h;omega)
     have o4:=hold 4 (fun i hi h=>by have:=rea.slotG_is h;omega)
     simp at o1 o4
     have hjj : j = 0 ∨ j = 1 ∨ j = 2 ∨ j = 3 ∨ j = 4 ∨ j = 5 ∨ j = 6 ∨ j = 7 ∨ j = 8 ∨ j = 9 ∨ j = 10 ∨ j = 11 ∨ j = 12 ∨ j = 13:=by omega
     rcases hjj with rfl | rfl | rfl | rfl | rfl | rfl | rfl | rfl | rfl | rfl | rfl | rfl | rfl | rfl
     all_goals (cases ho;simp [Region.binds,rea.slotG] at hdep;refine ⟨rfl,rfl,?_⟩)
     iterate 5 (· first | (refine .inl ⟨(by first | rfl | (simp [Region.wanted,yielded,hdep];done)),fun K hK=>?_⟩;unfold Oper.wpIn;refine ⟨fun f hf=>trivial,?_⟩;simp [go_sem,Act.eval,hdep,o1,o4,r0,r1,r2];exact hK _ bz0) | (refine .inl ⟨rfl,fun K hK=>?_⟩;unfold Oper.wpIn;refine ⟨fun f hf=>trivial,?_⟩;simp [go_sem,Act.eval,o1,o4,r0,r1,r2];exact hK _ bz0))
     ·refine .inl ⟨rfl,fun K hK=>?_⟩;unfold Oper.wpIn;refine ⟨fun f hf=>trivial,?_⟩;simp [execOp,Oper.semAt,Oper.uponIn,resolve,invoke,go_sem,Act.eval,hdep];refine (CallsIn.inRound ly (callsIn_wide.2 (LC.out _ hb))).mono ?_;rintro e w6 ⟨rfl,hb6⟩;exact hK _ hb6
     iterate 8 (· first | (refine .inl ⟨(by first | rfl | (simp [Region.wanted,yielded,hdep];done)),fun K hK=>?_⟩;unfold Oper.wpIn;refine ⟨fun f hf=>trivial,?_⟩;simp [go_sem,Act.eval,hdep,o1,o4,r0,r1,r2];exact hK _ bz0) | (refine .inl ⟨rfl,fun K hK=>?_⟩;unfold Oper.wpIn;refine ⟨fun f hf=>trivial,?_⟩;simp [go_sem,Act.eval,o1,o4,r0,r1,r2];exact hK _ bz0))
    rintro w5 hb5
    have HB5:=Lib.hid hb5
    clear hb5
    simp only [rea.setAll,rea.slotG]
    rw [show List.range 14 = [0,1,2,3,4,5,6,7,8,9,10,11,12,13] from rfl]
    simp (decide:=true) only [List.foldl_cons,List.foldl_nil,if_true,Nat.reduceAdd]
    simp (decide:=true) only [List.setIfInBounds_toArray,List.set_cons_succ,List.set_cons_zero,List.getElem?_toArray,List.getElem?_cons_succ,List.getElem?_cons_zero,Option.getD_some]
    gi_wp2
    exact NX.out _ HB5.out hno
   | false=>
    have hyes : acB s x.id = true:=hac
    gi_wp2_with fail
    refine rea.grow_regionIn 14 (rea.slotG 10 14 0) (fun jj=>(#[.pointer (some ⟨a.sb,0,none⟩),.pointer (some ⟨xa.xb,0,none⟩),.pointer (some ⟨xa.xb,0,none⟩),.pointer (some ⟨xa.xb,0,none⟩),.int .i64 x.id,.bool false,.bool true,.bool true,.pointer (some ⟨xa.xb,0,none⟩),.pointer (some ⟨xa.xb,0,none⟩),.pointer (some ⟨xa.xb,3,none⟩),.bool false,.bool true,.bool true] : Array Value)[jj]?.getD undef) (fun _=>trivial) rfl (by kernel_rfl) rfl (fun i d hi h=>by have:=rea.slotG_is h;simp;omega) (fun i j d hi hj h1 h2=>by have:=rea.slotG_is h1;have:=rea.slotG_is h2;omega) ?_ rfl ?_
    ·rintro j o hj ho aa w5 hb ⟨hold,hdep⟩
     have r0:=OLD.out _ hb _ _ Q0.out.1
     have r1:=OLD.out _ hb _ _ Q0.out.2.1
     have r2:=OLD.out _ hb _ _ Q0.out.2.2
     have o1:=hold 1 (fun i hi h=>by have:=rea.slotG_is h;omega)
     have o4:=hold 4 (fun i hi h=>by have:=rea.slotG_is h;omega)
     simp at o1 o4
     have hjj : j = 0 ∨ j = 1 ∨ j = 2 ∨ j = 3 ∨ j = 4 ∨ j = 5 ∨ j = 6 ∨ j = 7 ∨ j = 8 ∨ j = 9 ∨ j = 10 ∨ j = 11 ∨ j = 12 ∨ j = 13:=by omega
     rcases hjj with rfl | rfl | rfl | rfl | rfl | rfl | rfl | rfl | rfl | rfl | rfl | rfl | rfl | rfl
     all_goals (cases ho;simp [Region.binds,rea.slotG] at hdep;refine ⟨rfl,rfl,?_⟩)
     iterate 5 (· first | (refine .inl ⟨(by first | rfl | (simp [Region.wanted,yielded,hdep];done)),fun K hK=>?_⟩;unfold Oper.wpIn;refine ⟨fun f hf=>trivial,?_⟩;simp [go_sem,Act.eval,hdep,o1,o4,r0,r1,r2];exact hK _ bz0) | (refine .inl ⟨rfl,fun K hK=>?_⟩;unfold Oper.wpIn;refine ⟨fun f hf=>trivial,?_⟩;simp [go_sem,Act.eval,o1,o4,r0,r1,r2];exact hK _ bz0))
     ·refine .inl ⟨rfl,fun K hK=>?_⟩;unfold Oper.wpIn;refine ⟨fun f hf=>trivial,?_⟩;simp [execOp,Oper.semAt,Oper.uponIn,resolve,invoke,go_sem,Act.eval,hdep];refine (CallsIn.inRound ly (callsIn_wide.2 (LC.out _ hb))).mono ?_;rintro e w6 ⟨rfl,hb6⟩;exact hK _ hb6
     iterate 8 (· first | (refine .inl ⟨(by first | rfl | (simp [Region.wanted,yielded,hdep];done)),fun K hK=>?_⟩;unfold Oper.wpIn;refine ⟨fun f hf=>trivial,?_⟩;simp [go_sem,Act.eval,hdep,o1,o4,r0,r1,r2];exact hK _ bz0) | (refine .inl ⟨rfl,fun K hK=>?_⟩;unfold Oper.wpIn;refine ⟨fun f hf=>trivial,?_⟩;simp [go_sem,Act.eval,o1,o4,r0,r1,r2];exact hK _ bz0))
    rintro w5 hb5
    have HB5:=Lib.hid hb5
    clear hb5
    simp only [rea.setAll,rea.slotG]
    rw [show List.range 14 = [0,1,2,3,4,5,6,7,8,9,10,11,12,13] from rfl]
    simp (decide:=true) only [List.foldl_cons,List.foldl_nil,if_true,Nat.reduceAdd]
    simp (decide:=true) only [List.setIfInBounds_toArray,List.set_cons_succ,List.set_cons_zero,List.getElem?_toArray,List.getElem?_cons_succ,List.getElem?_cons_zero,Option.getD_some]
    have h5:=hB4.out.trans (HB5.out.mono hB4.out.size)
    have hm5:=(Mem.full HW.out.2.1.below).same h5
    have y1 : W4.heap[n + 1]? = some (.cells #[.int .i64 0] 3 (0,0)):=heap_below HW.out.2.2.2.2 (by have:=HX.out.2.1;rw [HH.out.2.2.2] at this;exact this)
    have y2 : W4.heap[n + 1 + 1]? = some (.cells #[.bool false] 4 (0,0)):=heap_below HW.out.2.2.2.2 (by have:=HX.out.2.2;rw [HH.out.2.2.2] at this;exact this)
    have ft : ∀ k,s.foot a k → k < n:=fun k hk=>by obtain ⟨o,ho⟩:=HH.out.2.1.dom hk;rw [← HH.out.2.2.2];exact HH.out.1.lt ho
    obtain ⟨H9,X9,T9⟩:=(HW.out.2.2.1.li.all (xa,x) (by rw [HP.out.2.1];simp)).setX hm5 3 (.bool true) (x':={ x with acc:=true }) rfl rfl rfl
    obtain ⟨SS9,TS9⟩:=HW.out.2.2.1.turnS hm5 HP.out.2.1 T9 X9 rfl rfl
    have AO:=Lib.hid (AcO.mk2 TS9 SS9 (by omega) (by omega) (by omega) (by omega) y1 y2 (fun c=>by have:=ft _ c;omega) (fun c=>by have:=ft _ c;omega) (.int .i64 x.id) (.bool true))
    have xbk:=hm5.at (HW.out.2.2.1.li.all (xa,x) (by rw [HP.out.2.1];simp)).xb
    have c3 : w5.cell? ⟨xa.xb,3,none⟩ = some (.bool false):=by rw [← HA.out];exact at_whole' xbk rfl
    have c0 : w5.cell? ⟨xa.xb,0,none⟩ = some (.int .i64 x.id):=at_whole' xbk rfl
    have z3:=frozen_whole xbk 3
    have k1 : w5.cell? ⟨n + 1,0,none⟩ = some (.int .i64 0):=at_whole (heap_below h5 y1) 0 rfl
    have k2 : w5.cell? ⟨n + 1 + 1,0,none⟩ = some (.bool false):=at_whole (heap_below h5 y2) 0 rfl
    have z1:=frozen_whole (heap_below h5 y1) 0
    have z2:=frozen_whole (heap_below h5 y2) 0
    have hxn : xa.xb < n:=ft _ (.inr ⟨(xa,x),by rw [HP.out.2.1];simp,.inl rfl⟩)
    have hn1 : xa.xb ≠ n + 1:=by omega
    have hn2 : xa.xb ≠ n + 1 + 1:=by omega
    have HN:=Lib.hid h5
    clear h5 hm5 y1 y2 ft X9 T9 SS9 TS9 xbk hxn
    gi_wp2
    refine ⟨?_,?_⟩
    ·exact ⟨by have:=HB5.out.size;simpa using this,fun k o _ hk ho=>by
      have e:=heap_below HB5.out hk
      have:=(((KeepsOthers.setCell w5 ⟨xa.xb,3,none⟩ (.bool true)).trans (KeepsOthers.setCell _ ⟨n + 1,0,none⟩ (.int .i64 x.id))).trans (KeepsOthers.setCell _ ⟨n + 1 + 1,0,none⟩ (.bool true))).same k o e ho
      exact this⟩
    ·exact ⟨rfl,pre,⟨(x.id,xa.xb),hx⟩,l1,xa,x,l2,rfl,HP.out.1,hyes,HP.out.2.1,rfl,AO.out⟩
 case stop=>
  rintro D c pre X hD hpre ⟨rfl,pre0,y,l1,xa,x,l2,rfl,e2,e3,e4,e5,hA⟩ hKD
  have hf : s.ss.find? (acE s) = some (xa,x):=ac_find (pre:=pre0.map (fun z : InE (ents s.ss)=>z.1.1)) (id:=y.1.1) hinc (by
   have e : s.ss.map (·.2.id) = (ents s.ss).map (fun p : Ent=>p.1):=by unfold ents;rw [List.map_map];rfl
   have:=hpre.map (fun p : Ent=>p.1)
   rw [List.map_map,List.map_append] at this
   rw [e]
   exact this) (fun i hi=>by obtain ⟨z,hz,rfl⟩:=List.mem_map.1 hi;exact e2 z hz) e4 e5 e3
  have HD:=Lib.hid (And.intro hA (And.intro e4 hKD))
  clear hA hpre e2 e3 e4 e5 hKD cB cb13 hmp
  gi_wp2
  refine ⟨by simp,.inl ⟨_,_,rfl,run_takeDeferred HD.out.2.2,?_⟩⟩
  have hI2:=HD.out.1.own (Y:=X.putObj D (.deferred none)) (grownBy_putObj' X D _) (fun k e=>by cases e;exact ⟨hD,by have:=HW.out.1.size;omega,_,HD.out.2.2,rfl⟩)
  have q1:=at_whole hI2.x1 0 rfl
  have q2:=at_whole hI2.x2 0 rfl
  obtain ⟨H9,T9,S9⟩:=hI2.out HH.out.1 HW.out.1 (by have:=HH.out.2.2.2;omega) (by have:=HH.out.2.2.2;omega)
  refine ⟨.tuple #[.int .i64 x.id,.bool true],by simp [results,Tryz.f25,go_sem,q1,q2],?_⟩
  show AcP W H a s (s.ss.find? (acE s)) _ _
  rw [hf]
  exact ⟨rfl,l1,l2,HD.out.2.1,H9,T9,S9⟩
 case done=>
  rintro D xs X hD hxs ⟨hbX,hall⟩ hKD
  have hf : s.ss.find? (acE s) = none:=ac_none hinc (fun i hi=>by
   have e : s.ss.map (·.2.id) = (ents s.ss).map (fun p : Ent=>p.1):=by unfold ents;rw [List.map_map];rfl
   rw [e,← hxs,List.map_map] at hi
   obtain ⟨z,hz,rfl⟩:=List.mem_map.1 hi
   exact hall z hz)
  have y1 : W4.heap[n + 1]? = some (.cells #[.int .i64 0] 3 (0,0)):=heap_below HW.out.2.2.2.2 (by have:=HX.out.2.1;rw [HH.out.2.2.2] at this;exact this)
  have y2 : W4.heap[n + 1 + 1]? = some (.cells #[.bool false] 4 (0,0)):=heap_below HW.out.2.2.2.2 (by have:=HX.out.2.2;rw [HH.out.2.2.2] at this;exact this)
  have ft : ∀ k,s.foot a k → k < n:=fun k hk=>by obtain ⟨o,ho⟩:=HH.out.2.1.dom hk;rw [← HH.out.2.2.2];exact HH.out.1.lt ho
  have hm5:=(Mem.full HW.out.2.1.below).same hbX
  have AO:=Lib.hid (AcO.mk2 (To.refl hm5 (s.foot a)) HW.out.2.2.1 (by omega) (by omega) (by omega) (by omega) y1 y2 (fun c=>by have:=ft _ c;omega) (fun c=>by have:=ft _ c;omega) (.int .i64 0) (.bool false))
  have k1 : X.cell? ⟨n + 1,0,none⟩ = some (.int .i64 0):=at_whole (heap_below hbX y1) 0 rfl
  have k2 : X.cell? ⟨n + 1 + 1,0,none⟩ = some (.bool false):=at_whole (heap_below hbX y2) 0 rfl
  have z1:=frozen_whole (heap_below hbX y1) 0
  have z2:=frozen_whole (heap_below hbX y2) 0
  have hd2 : ((X.setCell ⟨n + 1,0,none⟩ (.int .i64 0)).setCell ⟨n + 1 + 1,0,none⟩ (.bool false)).heap[D]? = some (.deferred (some [])):=((KeepsOthers.setCell X ⟨n + 1,0,none⟩ (.int .i64 0)).trans (KeepsOthers.setCell _ ⟨n + 1 + 1,0,none⟩ (.bool false))).same D _ hKD rfl
  have HD:=Lib.hid hd2
  clear hbX hall hxs hKD y1 y2 ft hm5 hd2 cB cb13 hmp
  go_wp2_with fail
  refine ⟨by simp,.inl ⟨_,_,rfl,run_takeDeferred HD.out,?_⟩⟩
  have hI2:=AO.out.own (Y:=World.putObj _ D (.deferred none)) (grownBy_putObj' _ D _) (fun k e=>by cases e;exact ⟨hD,by have:=HW.out.1.size;omega,_,HD.out,rfl⟩)
  have q1:=at_whole hI2.x1 0 rfl
  have q2:=at_whole hI2.x2 0 rfl
  obtain ⟨H9,T9,S9⟩:=hI2.out HH.out.1 HW.out.1 (by have:=HH.out.2.2.2;omega) (by have:=HH.out.2.2.2;omega)
  refine ⟨.tuple #[.int .i64 0,.bool false],by simp [results,Tryz.f25,go_sem,q1,q2],?_⟩
  show AcP W H a s (s.ss.find? (acE s)) _ _
  rw [hf]
  exact ⟨rfl,H9,T9,S9⟩
end
end
section
open Go.RowKit Go.Maps
section
variable {W w w' : World} {H : Nat → Option Obj} {a : SetA} {s : SetS}
theorem settle_yesD {l1 l2 : List (StA × Strm)} {xa : StA} {x : Strm} (hs : SetIn H a s) (hm : Mem W w H) (hl : s.ss = l1 ++ (xa,x) :: l2) (hd : x.done = true) (h0 : s.g0.Ok) (h1 : s.g1.Ok) :
  CallsD Tryz.prog 72 #[ptr a.sb,ptr xa.xb] .returning w fun e u' w'=>u' = .returning ∧ (e = .returned (.tuple #[]) ∧ ∃ H',To W w' H H' (s.foot a) (SetS.foot (goneS s x.id (l1 ++ l2)) a) ∧ SetIn H' a (goneS s x.id (l1 ++ l2))):=by
 obtain ⟨G,hG⟩ : ∃ G,goneS s x.id (l1 ++ l2) = G:=⟨_,rfl⟩
 rw [hG]
 have HG:=Lib.hid hG
 clear hG
 have he : (xa,x) ∈ s.ss:=by rw [hl];simp
 have hx:=hs.li.all _ he
 have DN:=Lib.hid (done_any hx hm)
 rw [hd] at DN
 have hid : x.id < 1152921504606846976:=hs.li.bd _ he
 have c13:=hs.c13 hm
 have cx:=hx.c0 hm
 obtain ⟨mo,m1,m2,m3⟩:=hs.mp
 have HM:=Lib.hid (m3 w (hm.at m1))
 have LC:=Lib.hid (fun (wx : World) (hx : wx.cell? ⟨a.sb,0,none⟩ = some (.bool s.cl))=>local_any a.sb x.id s.cl (by omega) wx hx)
 have KD:=Lib.hid (fun (wx : World)=>kind_any x.id (by omega) wx)
 have HS:=Lib.hid (And.intro hs (And.intro hm hl))
 have G0:=Lib.hid (And.intro h0 h1)
 clear hs hm hl he hx hd m1 m2 m3 h0 h1
 unfold ptr at *
 go_enter_d Tryz.func72,Tryz.ntmps72
 go_wp2_with (go_at_call 143;refine DN.out.mono ?_;rintro e wv ⟨rfl,rfl⟩)
 go_still_tail 8,(by kernel_rfl)
 obtain ⟨D,hD,hH⟩:=HM.out
 have hkey : keyOf Tryz.prog 3 (.int .i64 x.id) = some (.int .i64 x.id):=Maps.keyOf_int_mk Tryz.underlying3 (idWf (by omega))
 refine wpList_delete_own _ rfl _ _ 109 3 rfl 121 (Maps.int_keyed Tryz.underlying3) Tryz.underlying109 _ a.M _ D rfl (World.ownsMap.drew hD) _ _ rfl hkey ?_
 intro w3 hown3 hturn3
 have hMe : MapE w3 a.M (ents s.ss).length ((ents s.ss).filter fun p=>p.1 != x.id):=⟨_,hown3,hH.del x.id⟩
 obtain ⟨H3,T3,S3,X3⟩:=HS.out.1.del (HS.out.2.1.drew) HS.out.2.2 hMe hturn3.grown
 have R3:=Lib.hid (And.intro T3 (And.intro S3 X3))
 clear hD hH hown3 hturn3 hkey hMe T3 S3 X3 c13 cx HM DN HS
 have cs0 : w3.cell? ⟨a.sb,0,none⟩ = some (.bool s.cl):=at_whole' (R3.out.1.mem.at R3.out.2.1.sb) rfl
 have cx:=R3.out.2.2.c0 R3.out.1.mem
 cases hlc : isLoc s.cl x.id with
 | true=>
  have e : { s with ss:=l1 ++ l2 } = G:=by rw [← HG.out];simp [goneS,hlc]
  rw [hlc] at LC
  have RR:=Lib.hid (show To W w3 H H3 (s.foot a) (G.foot a) ∧ SetIn H3 a G from by rw [← e];exact ⟨R3.out.1,R3.out.2.1⟩)
  clear hlc e
  go_wp2_with (go_at_call 73;refine (LC.out _ cs0).mono ?_;rintro e wv ⟨rfl,rfl⟩)
  go_end0
  exact ⟨rfl,H3,RR.out⟩
 | false=>
  rw [hlc] at LC
  rcases kindN_lt x.id with hk | hk
  ·have e : { s with ss:=l1 ++ l2,g0:=stlG s.g0 } = G:=by rw [← HG.out];simp [goneS,hlc,hk,setG,grp]
   rw [hk] at KD
   have c18 : w3.cell? ⟨a.sb,18,none⟩ = some (.int .i64 s.g0.fg):=at_whole' (R3.out.1.mem.at R3.out.2.1.sb) rfl
   have c19 : w3.cell? ⟨a.sb,19,none⟩ = some (.bool s.g0.md):=at_whole' (R3.out.1.mem.at R3.out.2.1.sb) rfl
   have hw : IntKind.i64.wrap (s.g0.fg + 1) = s.g0.fg + 1:=IntWalk.i64_in _ (by have:=G0.out.1;unfold Grp.Ok at this;omega)
   clear hlc hk
   go_wp2_with (go_at_call 73;refine (LC.out _ cs0).mono ?_;rintro e wv ⟨rfl,rfl⟩)
   go_quiet ((go_at_call 119;exact Calls.quiet_of_same ((KD.out _).mono fun _ _ h=>⟨h.1,h.2.symm⟩)))
   have M3:=R3.out.1.mem.same (belowN (Below.refl w3.heap.size w3) nq)
   have z:=frozen_whole (M3.at R3.out.2.1.sb)
   have c18 : (w3.drewN nq).cell? ⟨a.sb,18,none⟩ = some (.int .i64 s.g0.fg):=c18
   have c19 : (w3.drewN nq).cell? ⟨a.sb,19,none⟩ = some (.bool s.g0.md):=c19
   obtain ⟨H4,S4,T4⟩:=R3.out.2.1.set M3 (s':={ s with ss:=l1 ++ l2,g0:={ s.g0 with fg:=s.g0.fg + 1 } }) 18 (.int .i64 (s.g0.fg + 1)) rfl rfl rfl rfl
   obtain ⟨H5,S5,T5⟩:=S4.set T4.mem (s':={ s with ss:=l1 ++ l2,g0:=stlG s.g0 }) 19 (.bool true) rfl rfl rfl rfl
   have RR:=Lib.hid (show To W _ H H5 (s.foot a) (G.foot a) ∧ SetIn H5 a G from by rw [← e];exact ⟨((R3.out.1.same (belowN bz0 nq)).trans T4).trans T5,S5⟩)
   clear S4 T4 S5 T5 e M3
   go_wp2
   go_end0
   exact ⟨rfl,H5,RR.out⟩
  ·have e : { s with ss:=l1 ++ l2,g1:=stlG s.g1 } = G:=by rw [← HG.out];simp [goneS,hlc,hk,setG,grp]
   rw [hk] at KD
   have c18 : w3.cell? ⟨a.sb,26,none⟩ = some (.int .i64 s.g1.fg):=at_whole' (R3.out.1.mem.at R3.out.2.1.sb) rfl
   have c19 : w3.cell? ⟨a.sb,27,none⟩ = some (.bool s.g1.md):=at_whole' (R3.out.1.mem.at R3.out.2.1.sb) rfl
   have hw : IntKind.i64.wrap (s.g1.fg + 1) = s.g1.fg + 1:=IntWalk.i64_in _ (by have:=G0.out.2;unfold Grp.Ok at this;omega)
   clear hlc hk
   go_wp2_with (go_at_call 73;refine (LC.out _ cs0).mono ?_;rintro e wv ⟨rfl,rfl⟩)
   go_quiet ((go_at_call 119;exact Calls.quiet_of_same ((KD.out _).mono fun _ _ h=>⟨h.1,h.2.symm⟩)))
   have M3:=R3.out.1.mem.same (belowN (Below.refl w3.heap.size w3) nq)
   have z:=frozen_whole (M3.at R3.out.2.1.sb)
   have c18 : (w3.drewN nq).cell? ⟨a.sb,26,none⟩ = some (.int .i64 s.g1.fg):=c18
   have c19 : (w3.drewN nq).cell? ⟨a.sb,27,none⟩ = some (.bool s.g1.md):=c19
   obtain ⟨H4,S4,T4⟩:=R3.out.2.1.set M3 (s':={ s with ss:=l1 ++ l2,g1:={ s.g1 with fg:=s.g1.fg + 1 } }) 26 (.int .i64 (s.g1.fg + 1)) rfl rfl rfl rfl
   obtain ⟨H5,S5,T5⟩:=S4.set T4.mem (s':={ s with ss:=l1 ++ l2,g1:=stlG s.g1 }) 27 (.bool true) rfl rfl rfl rfl
   have RR:=Lib.hid (show To W _ H H5 (s.foot a) (G.foot a) ∧ SetIn H5 a G from by rw [← e];exact ⟨((R3.out.1.same (belowN bz0 nq)).trans T4).trans T5,S5⟩)
   clear S4 T4 S5 T5 e M3
   go_wp2
   go_end0
   exact ⟨rfl,H5,RR.out⟩
theorem settle_noD {xa : StA} {x : Strm} (hs : SetIn H a s) (hm : Mem W w H) (hx : StIn H xa x) (hd : x.done = false) :
  CallsD Tryz.prog 72 #[ptr a.sb,ptr xa.xb] .returning w fun e u' w'=>u' = .returning ∧ (e = .returned (.tuple #[]) ∧ w = w'):=by
 have DN:=Lib.hid (done_any hx hm)
 rw [hd] at DN
 clear hs hm hx hd
 unfold ptr at *
 go_enter_d Tryz.func72,Tryz.ntmps72
 go_wp2_with (go_at_call 143;refine DN.out.mono ?_;rintro e wv ⟨rfl,rfl⟩)
 refine bodyPost_ret (results_none rfl _ _ _) rfl ?_
 exact ⟨rfl,rfl⟩
theorem settle_anyD {l1 l2 : List (StA × Strm)} {xa : StA} {x : Strm} (hs : SetIn H a s) (hm : Mem W w H) (hl : s.ss = l1 ++ (xa,x) :: l2) (h0 : s.g0.Ok) (h1 : s.g1.Ok) :
  CallsD Tryz.prog 72 #[ptr a.sb,ptr xa.xb] .returning w fun e u' w'=>u' = .returning ∧ (e = .returned (.tuple #[]) ∧ ∃ H',To W w' H H' (s.foot a) (SetS.foot (stlS s l1 l2 xa x) a) ∧ SetIn H' a (stlS s l1 l2 xa x)):=by
 unfold stlS
 cases hd : x.done with
 | true=>exact settle_yesD hs hm hl hd h0 h1
 | false=>
  obtain ⟨q1,q2⟩:=hs.same hm hl
  refine (settle_noD hs hm (hs.li.all (xa,x) (by rw [hl];simp)) hd).mono fun e u' w' hh=>⟨hh.1,hh.2.1,H,?_,q1⟩
  rw [← hh.2.2];exact q2
end
end
section
open Go.RowKit
theorem Rcr.Ok.read {r : Rcr} (h : r.Ok) (n : Int) : (r.read n).Ok:=by
 obtain ⟨h1,h2,h3,h4,h5,h6⟩:=h
 unfold Rcr.read
 split
 ·exact ⟨by show 0 ≤ r.rd + min n (r.hi - r.rd);omega,by show r.rd + min n (r.hi - r.rd) ≤ r.hi;omega,h3,h4,h5,h6⟩
 ·exact ⟨h1,h2,h3,h4,h5,h6⟩
def rdN (R : rea.Rb) (n : Nat) : Nat:=min n (rea.readyF R.hs)
def rdStr (R : rea.Rb) (n : Nat) : ByteArray:=strOfNums (R.bs.take (rdN R n))
def rdEnd (R : rea.Rb) (n : Nat) : Bool:=R.kn && decide (((R.at_ + rdN R n : Nat) : Int) = R.fin)
def rdR (R : rea.Rb) (n : Nat) : rea.Rb:={ R with at_:=R.at_ + rdN R n,bs:=rea.takeB (rdN R n) R.bs,hs:=rea.takeH (rdN R n) R.hs }
def takeI (i : InP) (n : Nat) : InP:=if rdEnd i.R n then ({ i with R:=rdR i.R n,wn:=i.wn.read (rdN i.R n) } : InP).on 8 else { i with R:=rdR i.R n,wn:=i.wn.read (rdN i.R n) }
section
variable {W w w' : World} {H : Nat → Option Obj} {a : SetA} {s : SetS}
theorem take_any (hs : SetIn H a s) (hm : Mem W w H) {l1 l2 : List (StA × Strm)} {xa : StA} {x : Strm} {i : InP} (hl : s.ss = l1 ++ (xa,x) :: l2) (hi : x.inp = some i) (n : Nat) (hn : n ≤ 1152921504606846976) (hat : i.R.at_ ≤ 1125899906842624) :
  Calls Tryz.prog 76 #[ptr a.sb,ptr xa.xb,.int .i64 n] w fun e w'=>e = .returned (.tuple #[.string (rdStr i.R n),.bool (rdEnd i.R n)]) ∧ ∃ H' xa',xa'.xb = xa.xb ∧ xa'.i = xa.i ∧ To W w' H H' (s.foot a) (SetS.foot { s with ss:=l1 ++ (xa',{ x with inp:=some (takeI i n) }) :: l2,wn:=s.wn.read (rdN i.R n) } a) ∧ SetIn H' a { s with ss:=l1 ++ (xa',{ x with inp:=some (takeI i n) }) :: l2,wn:=s.wn.read (rdN i.R n) }:=by
 have he : (xa,x) ∈ s.ss:=by rw [hl];simp
 have hx:=hs.li.all _ he
 have ho:=hx.i
 simp only [hi] at ho
 obtain ⟨ia,h1,h2⟩:=ho.some_of
 have c2:=hx.c2 hm
 rw [h1] at c2
 simp only [Option.map_some,optP,ptr] at c2
 have c0 : w.cell? ⟨ia.ib,0,none⟩ = some (.pointer (some ⟨ia.rb,0,none⟩)):=h2.facts hm 0 rfl
 have RD:=Lib.hid (rea.Read_any ia.rb ia.g1 ia.g2 i.R n w (h2.rbAt hm) hn hat (rdN i.R n) rfl)
 have hss : (rdStr i.R n).size = rdN i.R n:=by
  have h3:=rea.readyF_le i.R.hs
  have h4:=h2.hl
  unfold rdStr
  rw [strOfNums_size]
  simp only [List.length_take]
  unfold rdN
  omega
 have hcalc : Hid (rdN i.R n ≤ 8192):=Lib.hid (by
  have h3:=rea.readyF_le i.R.hs
  have h4:=h2.hl
  have h5:=h2.sm
  unfold rdN;omega)
 have HH:=Lib.hid (And.intro hs (And.intro hm (And.intro hl (And.intro hx h2))))
 obtain ⟨Q,hQ⟩ : ∃ Q,strOfNums (i.R.bs.take (rdN i.R n)) = Q:=⟨_,rfl⟩
 obtain ⟨en,hen⟩ : ∃ en,(i.R.kn && decide (((i.R.at_ + rdN i.R n : Nat) : Int) = i.R.fin)) = en:=⟨_,rfl⟩
 have eQ : rdStr i.R n = Q:=hQ
 have eE : rdEnd i.R n = en:=hen
 rw [hQ,hen] at RD
 rw [eQ] at hss ⊢
 rw [eE]
 have EE:=Lib.hid eE
 obtain ⟨m,hmm⟩ : ∃ m,rdN i.R n = m:=⟨_,rfl⟩
 have R1:=Lib.hid (show rdR i.R n = { i.R with at_:=i.R.at_ + m,bs:=rea.takeB m i.R.bs,hs:=rea.takeH m i.R.hs } from by unfold rdR;rw [hmm])
 have TI:=Lib.hid (show takeI i n = if en then ({ i with R:=rdR i.R n,wn:=i.wn.read m } : InP).on 8 else { i with R:=rdR i.R n,wn:=i.wn.read m } from by unfold takeI;rw [eE,hmm])
 rw [hmm] at RD hss hcalc ⊢
 have T1:=Lib.hid True.intro
 clear hs hm hl he hx ho h2 hQ hen eQ eE hmm
 unfold ptr
 go_enter Tryz.func76,Tryz.ntmps76
 go_upto_region 2 with (go_at_call 145;refine RD.out.mono ?_;rintro e w1 ⟨rfl,hT,hR⟩;have G1:=Lib.hid (And.intro hT hR);clear hT hR)
 obtain ⟨H1,I1,TO1⟩:=HH.out.2.2.2.2.setR HH.out.2.1 G1.out.1 G1.out.2
 obtain ⟨X1,TX1⟩:=HH.out.2.2.2.1.turnI h1 hi TO1 I1 rfl
 have c2:=X1.c2 TX1.mem
 simp only [Option.map_some,optP,ptr] at c2
 have c1 : w1.cell? ⟨ia.ib,1,none⟩ = some (.pointer (some ⟨ia.wb,0,none⟩)):=I1.facts TO1.mem 1 rfl
 have RW:=Lib.hid (readR_any ia.wb i.wn (m : Int) w1 (TO1.mem.at I1.wb) I1.wn (by have:=hcalc.out;omega))
 have S1:=Lib.hid (And.intro TO1 I1)
 unfold ptr at RW
 clear c0 X1 TX1 TO1 I1 RD
 go_upto_region 3 with (go_at_call 146;refine RW.out.mono ?_;rintro e w2 ⟨rfl,hB⟩;have G2:=Lib.hid hB;clear hB)
 obtain ⟨H2,I2,TO2⟩:=S1.out.2.setW S1.out.1.mem G2.out (S1.out.2.wn.read m)
 obtain ⟨X2,TX2⟩:=HH.out.2.2.2.1.turnI h1 hi (S1.out.1.trans TO2) I2 rfl
 obtain ⟨SS2,TS2⟩:=HH.out.1.turnS HH.out.2.1 HH.out.2.2.1 TX2 X2 rfl rfl
 have c31 : w2.cell? ⟨a.sb,31,none⟩ = some (.pointer (some ⟨a.wb,0,none⟩)):=at_whole' (TS2.mem.at SS2.sb) rfl
 have RS:=Lib.hid (readR_any a.wb s.wn (m : Int) w2 (TS2.mem.at SS2.wb) SS2.wn (by have:=hcalc.out;omega))
 unfold ptr at RS
 have S2:=Lib.hid (And.intro SS2 (And.intro TS2 (And.intro X2 (And.intro (S1.out.1.trans TO2) I2))))
 clear c1 c2 SS2 TS2 X2 TX2 TO2 I2 RW
 go_upto_region 4 with (go_at_call 146;refine RS.out.mono ?_;rintro e w3 ⟨rfl,hB⟩;have G3:=Lib.hid hB;clear hB)
 obtain ⟨H3,SS3,TS3⟩:=S2.out.1.setW S2.out.2.1.mem G3.out (S2.out.1.wn.read m)
 have S3:=Lib.hid (And.intro SS3 (S2.out.2.1.trans TS3))
 clear c31 RS SS3 TS3
 cases en with
 | false=>
  have eI : takeI i n = { i with R:={ i.R with at_:=i.R.at_ + m,bs:=rea.takeB m i.R.bs,hs:=rea.takeH m i.R.hs },wn:=i.wn.read m }:=by rw [TI.out];simp [R1.out]
  have RR:=Lib.hid (show To W w3 H H3 (s.foot a) (SetS.foot { s with ss:=l1 ++ ({ xa with i:=some ia },{ x with inp:=some (takeI i n) }) :: l2,wn:=s.wn.read m } a) ∧ SetIn H3 a { s with ss:=l1 ++ ({ xa with i:=some ia },{ x with inp:=some (takeI i n) }) :: l2,wn:=s.wn.read m } from by rw [eI];exact ⟨S3.out.2,S3.out.1⟩)
  clear eI
  go_wp2
  go_returns
  exact ⟨rfl,H3,{ xa with i:=some ia },rfl,by simp [h1],RR.out⟩
 | true=>
  have eI : takeI i n = ({ i with R:={ i.R with at_:=i.R.at_ + m,bs:=rea.takeB m i.R.bs,hs:=rea.takeH m i.R.hs },wn:=i.wn.read m } : InP).on 8:=by rw [TI.out];simp [R1.out]
  have EI:=Lib.hid eI
  clear eI
  have hl3 : ({ s with ss:=l1 ++ ({ xa with i:=some ia },{ x with inp:=some { i with R:={ i.R with at_:=i.R.at_ + m,bs:=rea.takeB m i.R.bs,hs:=rea.takeH m i.R.hs },wn:=i.wn.read m } }) :: l2,wn:=s.wn.read m } : SetS).ss = l1 ++ ({ xa with i:=some ia },{ x with inp:=some { i with R:={ i.R with at_:=i.R.at_ + m,bs:=rea.takeB m i.R.bs,hs:=rea.takeH m i.R.hs },wn:=i.wn.read m } }) :: l2:=rfl
  have X3:=S3.out.1.li.all ({ xa with i:=some ia },{ x with inp:=some { i with R:={ i.R with at_:=i.R.at_ + m,bs:=rea.takeB m i.R.bs,hs:=rea.takeH m i.R.hs },wn:=i.wn.read m } }) (by rw [hl3];simp)
  have I3 : InIn H3 ia _:=X3.i
  have c2:=X3.c2 S3.out.2.mem
  simp only [Option.map_some,optP,ptr] at c2
  have ON:=Lib.hid (onI_any I3 S3.out.2.mem 8)
  have S4:=Lib.hid (And.intro hl3 (And.intro X3 I3))
  unfold ptr at ON
  clear hl3 X3 I3
  go_upto_region 6 with (go_at_call 75;refine ON.out.mono ?_;rintro e w4 ⟨rfl,H4,hO,hT⟩;have G4:=Lib.hid (And.intro hO hT);clear hO hT)
  obtain ⟨X4,TX4⟩:=S4.out.2.1.turnI rfl rfl G4.out.2 G4.out.1 rfl
  obtain ⟨SS4,TS4⟩:=S3.out.1.turnS (l1:=l1) (l2:=l2) S3.out.2.mem rfl TX4 X4 rfl rfl
  have RR:=Lib.hid (show ∃ H' xa',xa'.xb = xa.xb ∧ xa'.i = xa.i ∧ To W w4 H H' (s.foot a) (SetS.foot { s with ss:=l1 ++ (xa',{ x with inp:=some (takeI i n) }) :: l2,wn:=s.wn.read m } a) ∧ SetIn H' a { s with ss:=l1 ++ (xa',{ x with inp:=some (takeI i n) }) :: l2,wn:=s.wn.read m } from by
   rw [EI.out]
   exact ⟨H4,{ xa with i:=some ia },rfl,by simp [h1],S3.out.2.trans TS4,SS4⟩)
  clear X4 TX4 SS4 TS4
  go_wp2
  go_returns
  exact ⟨rfl,RR.out⟩
end
end
end Go.Proofs.YthckbmcmdcemkaaGreatDoor.stm
