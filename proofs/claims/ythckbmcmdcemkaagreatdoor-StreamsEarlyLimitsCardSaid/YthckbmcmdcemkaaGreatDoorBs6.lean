/- Texts of this claim, one behind the other: Append Append2 A Zeros B C D. -/
import Derived.Test.YthckbmcmdcemkaaGreatDoorBs1
import Derived.Deep.AppendLies
import Derived.Laws.OwnMore
import Derived.OwnWalk
import Derived.Deep.AppendSrc
import Derived.Laws.CopyRow
import Derived.Deep.RegionHeld3
import Derived.BigQuiet
import Derived.Deep.QuietTactic
import Derived.StillTailTactics
import Derived.BigGuardPart
import Derived.Deep.RegionLaw
import Derived.Laws.BytesArg
set_option maxRecDepth 100000
set_option maxHeartbeats 16000000
set_option linter.unusedSimpArgs false
set_option linter.unusedVariables false
namespace Go.Proofs.YthckbmcmdcemkaaGreatDoor
section
open Go.RowKit Go.WideShapes Go.ChangeShapes
theorem ints_oneCell (k : IntKind) (zs : List Int) : ∀ u ∈ zs.map (Value.int k),u.oneCell' = true:=by
 intro u hu
 obtain ⟨z,_,rfl⟩:=List.mem_map.1 hu
 rfl
section
variable {P : Program}
end
end
section
open Go.RowKit
section
variable {P : Program}
theorem own_after (w : World) (base : Nat) (e : TypeId) (size : Nat) (n m : Nat) (xs news : List Value) (g cap : Nat) (cur : Array Value) (hbg : base ≤ g) (hg : w.heap[g]? = some (.cells cur e (0,0))) (hcm : cap ≤ maxLen) (hcs : cur.size = cap * size)
  (htake : cur.toList.take (n * size) = xs) (hxl : xs.length = n * size) (hl : news.length = m * size) (hroom : n + m ≤ cap) :
  (w.setRow g (cur.toList.take (n * size) ++ news ++ cur.toList.drop (n * size + news.length)).toArray).ownsRow base e size (.slice (some ⟨g,0,none⟩) (n + m) cap) (n + m) (xs ++ news) ∧
  w.grownBy (w.setRow g (cur.toList.take (n * size) ++ news ++ cur.toList.drop (n * size + news.length)).toArray) (some g):=by
 have hlen : (xs ++ news).length = (n + m) * size:=by rw [List.length_append,hxl,hl,Nat.add_mul]
 refine ⟨⟨hlen,.inr ⟨g,cap,_,rfl,hbg,setRow_heap w g cur _ e _ hg,hroom,hcm,?_,?_⟩⟩,⟨rfl,rfl,rfl,by simp,fun k _ hk=>setRow_other w g k _ (fun e=>hk (by simp [e]))⟩⟩
 ·have hle : n * size + news.length ≤ cap * size:=by rw [hl,← Nat.add_mul];exact Nat.mul_le_mul_right _ hroom
  simp only [List.size_toArray,List.length_append,List.length_take,List.length_drop,Array.length_toList]
  omega
 ·rw [htake,← hlen]
  exact List.take_left
theorem new_after (w : World) (base : Nat) (e : TypeId) (z : Value) (size : Nat) (n m : Nat) (xs news : List Value) (old : Nat) (row : Option Nat) (hzs : z.cells.size = size) (hxl : xs.length = n * size) (hl : news.length = m * size) (h63 : n + m ≤ maxLen) (hbase : base ≤ w.heap.size) :
  (w.drew.alloc (.cells ((xs ++ news).toArray ++ Builtin.zeroCells z.cells (grownCap w (n + m) old e - (n + m))) e)).ownsRow base e size (.slice (some ⟨w.heap.size,0,none⟩) (n + m) (grownCap w (n + m) old e)) (n + m) (xs ++ news) ∧
  w.grownBy (w.drew.alloc (.cells ((xs ++ news).toArray ++ Builtin.zeroCells z.cells (grownCap w (n + m) old e - (n + m))) e)) row:=by
 have hlen : (xs ++ news).length = (n + m) * size:=by rw [List.length_append,hxl,hl,Nat.add_mul]
 have hge:=grownCap_ge w (n + m) old e
 have hcm : grownCap w (n + m) old e ≤ maxLen:=grownCap_le_maxLen w (n + m) old e h63
 refine ⟨⟨hlen,.inr ⟨w.heap.size,_,_,rfl,hbase,heap_alloc_new w.drew _,hge,hcm,?_,?_⟩⟩,⟨rfl,rfl,rfl,by simp,fun k hk _=>Below.heap_alloc w.drew _ k hk⟩⟩
 ·simp only [Array.size_append,List.size_toArray,size_zeroCells,hzs,hlen,← Nat.add_mul]
  congr 1
  omega
 ·simp only [Array.toList_append]
  rw [← hlen]
  exact List.take_left
theorem run_append_src (w : World) (base : Nat) (t tx ty e : TypeId) (i : TypeInfo) (z : Value) (size bytes : Nat) (ht : P.underlying t = some (.slice e)) (hi : P.info? e = some i) (hz : i.zero = some z)
  (hsize : i.size = size) (hby : i.bytes = bytes) (hzs : z.cells.size = size) (hsz : 0 < size)
  (v : Value) (n : Nat) (xs : List Value) (hown : w.ownsRow base e size v n xs) (x : Value) (m : Nat) (news : List Value) (hs : Src P size tx x m news w)
  (h63 : n + m ≤ maxLen) (hbytes : (n + m) * bytes ≤ 140737488355328) (hbase : base ≤ w.heap.size) :
  ∃ v' w',(Builtin.append_ #[t,tx] ty #[v,x]).run P w = .ok v' w' ∧ w'.ownsRow base e size v' (n + m) (xs ++ news) ∧ w.grownBy w' v.ownBlock ∧ ∀ k,v'.ownBlock = some k → v.ownBlock = some k ∨ w.heap.size ≤ k:=by
 subst hsize
 subst hby
 have hsmall : n + m ≤ 9223372036854775807:=by simp only [maxLen] at h63;omega
 rcases hown.2 with ⟨rfl,rfl⟩ | ⟨g,cap,cur,rfl,hbg,hg,hnc,hcm,hcs,htake⟩
 ·have hx : xs = []:=List.eq_nil_of_length_eq_zero (by simpa using hown.1)
  subst hx
  by_cases hm : m = 0
  ·subst hm
   have hn : news = []:=List.eq_nil_of_length_eq_zero (by simpa using hs.newsLen)
   subst hn
   refine ⟨.slice none 0 0,w,?_,World.ownsRow_nil w base e i.size,⟨rfl,rfl,rfl,Nat.le_refl _,fun _ _ _=>rfl⟩,fun k hk=>.inl hk⟩
   rcases hs.kind with ⟨e',hk⟩ | hk <;> simp [Builtin.append_,run_underlying ht,run_underlying hk,sizeOf,typeInfo,hi,hs.len,hs.cells]
  ·have hr:=run_append_grow_src (P:=P) w t tx ty e i z ht hi hz none 0 0 [] (run_firstCells_none w.drew i.size 0 0 0) x m news hs (by omega) (by omega) (growslice_fits (by omega) hbytes)
   have ha:=new_after w base e z i.size 0 m [] news 0 (Value.ownBlock (.slice none 0 0)) hzs (by simp) hs.newsLen h63 hbase
   exact ⟨_,_,hr,ha.1,ha.2,fun k hk=>.inr (by cases hk;exact Nat.le_refl _)⟩
 ·by_cases hroom : n + m ≤ cap
  ·have hfit : n * i.size + news.length ≤ cur.size:=by rw [hs.newsLen,hcs,← Nat.add_mul];exact Nat.mul_le_mul_right _ hroom
   have hst:=run_storeCells_at (P:=P) g (n * i.size) e news 0 cur w hg (by simpa using hfit) hs.one
   simp only [Nat.add_zero] at hst
   have ha:=own_after w base e i.size n m xs news g cap cur hbg hg hcm hcs htake hown.1 hs.newsLen hroom
   refine ⟨_,_,?_,ha.1,ha.2,fun k hk=>.inl hk⟩
   have hadd : (⟨g,0,none⟩ : Addr).add (n * i.size) = ⟨g,n * i.size,none⟩:=by rw [add_plain,Nat.zero_add]
   rcases hs.kind with ⟨e',hk⟩ | hk <;> simp [Builtin.append_,run_underlying ht,run_underlying hk,sizeOf,typeInfo,hi,hs.len,hroom,hs.cells,hadd,hst]
  ·have holds : ∀ j u,xs[j]? = some u → w.cell? ((⟨g,0,none⟩ : Addr).add j) = some u:=hown.cells (g:=g) rfl
   have hold:=run_firstCells_some (P:=P) w.drew i.size n ⟨g,0,none⟩ n cap xs hown.1 (by simpa using holds)
   have hr:=run_append_grow_src (P:=P) w t tx ty e i z ht hi hz (some ⟨g,0,none⟩) n cap xs hold x m news hs (by omega) (by omega) (growslice_fits (by omega) hbytes)
   have ha:=new_after w base e z i.size n m xs news cap (some g) hzs hown.1 hs.newsLen h63 hbase
   exact ⟨_,_,hr,ha.1,ha.2,fun k hk=>.inr (by cases hk;exact Nat.le_refl _)⟩
end
end
section
open Go.RowKit
/-- only the blocks of F may have turned; new ones may have come -/
structure Chg (F : Nat → Prop) (w w' : World) : Prop where
 os : w'.os = w.os
 tape : w'.tape = w.tape
 output : w'.output = w.output
 size : w.heap.size ≤ w'.heap.size
 block : ∀ k,k < w.heap.size → ¬ F k → w'.heap[k]? = w.heap[k]?
def Ext (F : Nat → Prop) (w w' : World) (k : Nat) : Prop:=F k ∨ (w.heap.size ≤ k ∧ k < w'.heap.size)
theorem Chg.refl (F : Nat → Prop) (w : World) : Chg F w w:=⟨rfl,rfl,rfl,Nat.le_refl _,fun _ _ _=>rfl⟩
theorem Chg.trans {F : Nat → Prop} {a b c : World} (h : Chg F a b) (k : Chg (Ext F a b) b c) : Chg F a c:=
 ⟨k.os.trans h.os,k.tape.trans h.tape,k.output.trans h.output,Nat.le_trans h.size k.size,fun i hi hf=>(k.block i (Nat.lt_of_lt_of_le hi h.size) (fun e=>e.elim hf (fun e=>Nat.not_le.2 hi e.1))).trans (h.block i hi hf)⟩
theorem Chg.trans1 {F : Nat → Prop} {a b c : World} (h : Chg F a b) (k : Chg F b c) : Chg F a c:=
 ⟨k.os.trans h.os,k.tape.trans h.tape,k.output.trans h.output,Nat.le_trans h.size k.size,fun i hi hf=>(k.block i (Nat.lt_of_lt_of_le hi h.size) hf).trans (h.block i hi hf)⟩
theorem Chg.mono {F G : Nat → Prop} {a b : World} (h : Chg F a b) (hs : ∀ k,F k → G k) : Chg G a b:=⟨h.os,h.tape,h.output,h.size,fun k hk hg=>h.block k hk (fun e=>hg (hs k e))⟩
theorem Chg.grown {w w' : World} {b : Nat} {F : Nat → Prop} (h : w.grownBy w' (some b)) (hF : F b) : Chg F w w':=⟨h.os,h.tape,h.output,h.size,fun k hk hn=>h.block k hk (fun e=>hn (by cases e;exact hF))⟩
theorem Chg.grownO {w w' : World} {r : Option Nat} {F : Nat → Prop} (h : w.grownBy w' r) (hF : ∀ k,r = some k → F k) : Chg F w w':=⟨h.os,h.tape,h.output,h.size,fun k hk hn=>h.block k hk (fun e=>hn (hF k e.symm))⟩
theorem Chg.drew {F : Nat → Prop} {a b : World} (h : Chg F a b) : Chg F a b.drew:=⟨h.os,h.tape,h.output,h.size,h.block⟩
theorem Chg.below {F : Nat → Prop} {a b : World} (h : Below a.heap.size a b) : Chg F a b:=⟨h.os,h.tape,h.output,h.size,fun k hk _=>h.block k hk⟩
theorem Chg.toBelow {F : Nat → Prop} {W a b : World} (hB : Below W.heap.size W a) (h : Chg F a b) (hF : ∀ k,F k → W.heap.size ≤ k) : Below W.heap.size W b:=
 ⟨h.os.trans hB.os,h.tape.trans hB.tape,h.output.trans hB.output,Nat.le_trans hB.size h.size,fun k hk=>(h.block k (Nat.lt_of_lt_of_le hk hB.size) (fun e=>Nat.not_le.2 hk (hF k e))).trans (hB.block k hk)⟩
theorem Chg.heap {F : Nat → Prop} {a b : World} (h : Chg F a b) {k : Nat} {o : Obj} (hk : a.heap[k]? = some o) (hn : ¬ F k) : b.heap[k]? = some o:=(h.block k (heap_lt hk) hn).trans hk
theorem own_same {w w' : World} {base : Nat} {e : TypeId} {size : Nat} {v : Value} {n : Nat} {xs : List Value} (h : w.ownsRow base e size v n xs) (hs : ∀ k,v.ownBlock = some k → w'.heap[k]? = w.heap[k]?) : w'.ownsRow base e size v n xs:=by
 obtain ⟨hl,h⟩:=h
 refine ⟨hl,?_⟩
 rcases h with h | ⟨g,cap,cur,rfl,h2,h3,h4⟩
 ·exact .inl h
 ·exact .inr ⟨g,cap,cur,rfl,h2,(hs g rfl).trans h3,h4⟩
theorem own_lt {w : World} {base : Nat} {e : TypeId} {size : Nat} {v : Value} {n : Nat} {xs : List Value} (h : w.ownsRow base e size v n xs) : ∀ k,v.ownBlock = some k → k < w.heap.size:=by
 intro k hk
 rcases h.2 with ⟨rfl,_⟩ | ⟨g,cap,cur,rfl,hb,hg,_⟩
 ·cases hk
 ·have : g = k:=by simpa [Value.ownBlock] using hk
  subst this;exact heap_lt hg
structure Bf where
 lim : Int
 base : Int
 data : List Int
 st : List Int
 sent : Int
 fin : Bool
 ed : Int
def Bf.cells (B : Bf) (vd vs : Value) : Array Value:=#[.int .i64 B.lim,.int .i64 B.base,vd,vs,.int .i64 B.sent,.bool B.fin,.int .u8 B.ed]
structure Rep (w : World) (b : Nat) (F : Nat → Prop) (B : Bf) (vd vs : Value) : Prop where
 obj : w.heap[b]? = some (.cells (B.cells vd vs) 209 (0,0))
 rd : w.ownsRow 0 5 1 vd B.data.length (B.data.map (.int .u8))
 rs : w.ownsRow 0 207 1 vs B.st.length (B.st.map (.int .u8))
 fb : F b
 fd : ∀ k,vd.ownBlock = some k → F k ∧ k ≠ b
 fs : ∀ k,vs.ownBlock = some k → F k ∧ k ≠ b ∧ vd.ownBlock ≠ some k
structure Facts (w : World) (b : Nat) (B : Bf) (vd vs : Value) : Prop where
 c0 : w.cell? ⟨b,0,none⟩ = some (.int .i64 B.lim)
 c1 : w.cell? ⟨b,1,none⟩ = some (.int .i64 B.base)
 c2 : w.cell? ⟨b,2,none⟩ = some vd
 c3 : w.cell? ⟨b,3,none⟩ = some vs
 c4 : w.cell? ⟨b,4,none⟩ = some (.int .i64 B.sent)
 c5 : w.cell? ⟨b,5,none⟩ = some (.bool B.fin)
 c6 : w.cell? ⟨b,6,none⟩ = some (.int .u8 B.ed)
 fr : ∀ j,w.frozen? ⟨b,j,none⟩ = false
theorem Rep.facts {w : World} {b : Nat} {F : Nat → Prop} {B : Bf} {vd vs : Value} (h : Rep w b F B vd vs) : Facts w b B vd vs:=
 ⟨cell_whole h.obj 0,cell_whole h.obj 1,cell_whole h.obj 2,cell_whole h.obj 3,cell_whole h.obj 4,cell_whole h.obj 5,cell_whole h.obj 6,frozen_whole h.obj⟩
theorem own_form {w : World} {base : Nat} {e : TypeId} {size : Nat} {v : Value} {n : Nat} {xs : List Value} (h : w.ownsRow base e size v n xs) : ∃ a cap,v = .slice a n cap ∧ n ≤ cap:=by
 rcases h.2 with ⟨rfl,rfl⟩ | ⟨g,cap,cur,rfl,hb,hg,hn,_⟩
 ·exact ⟨none,0,rfl,Nat.le_refl _⟩
 ·exact ⟨_,cap,rfl,hn⟩
theorem Rep.stay {w w' : World} {b : Nat} {F : Nat → Prop} {B : Bf} {vd vs : Value} (h : Rep w b F B vd vs) (hs : ∀ k,F k → k < w.heap.size → w'.heap[k]? = w.heap[k]?) : Rep w' b F B vd vs:=
 ⟨(hs b h.fb (heap_lt h.obj)).trans h.obj,own_same h.rd (fun k hk=>hs k (h.fd k hk).1 (own_lt h.rd k hk)),own_same h.rs (fun k hk=>hs k (h.fs k hk).1 (own_lt h.rs k hk)),h.fb,h.fd,h.fs⟩
theorem Rep.below {w w' : World} {b : Nat} {F : Nat → Prop} {B : Bf} {vd vs : Value} (h : Rep w b F B vd vs) (hb : Below w.heap.size w w') : Rep w' b F B vd vs:=h.stay (fun k _ hk=>hb.block k hk)
theorem Rep.chg {w w' : World} {b : Nat} {F G : Nat → Prop} {B : Bf} {vd vs : Value} (h : Rep w b F B vd vs) (hc : Chg G w w') (hd : ∀ k,F k → ¬ G k) : Rep w' b F B vd vs:=h.stay (fun k hf hk=>hc.block k hk (hd k hf))
theorem Rep.drew {w : World} {b : Nat} {F : Nat → Prop} {B : Bf} {vd vs : Value} (h : Rep w b F B vd vs) : Rep w.drew b F B vd vs:=h.stay (fun _ _ _=>rfl)
theorem Rep.drewN {w : World} {b : Nat} {F : Nat → Prop} {B : Bf} {vd vs : Value} (h : Rep w b F B vd vs) (n : Nat) : Rep (w.drewN n) b F B vd vs:=h.stay (fun _ _ _=>rfl)
theorem Rep.ext {w : World} {b : Nat} {F G : Nat → Prop} {B : Bf} {vd vs : Value} (h : Rep w b F B vd vs) (hs : ∀ k,F k → G k) : Rep w b G B vd vs:=
 ⟨h.obj,h.rd,h.rs,hs _ h.fb,fun k hk=>⟨hs _ (h.fd k hk).1,(h.fd k hk).2⟩,fun k hk=>⟨hs _ (h.fs k hk).1,(h.fs k hk).2⟩⟩
theorem Rep.set {w : World} {b : Nat} {F : Nat → Prop} {B B' : Bf} {vd vs : Value} (h : Rep w b F B vd vs) (i : Nat) (v : Value) (e : (B.cells vd vs).setIfInBounds i v = B'.cells vd vs) (hd : B'.data = B.data) (hs : B'.st = B.st) : Rep (w.setCell ⟨b,i,none⟩ v) b F B' vd vs:=
 ⟨by rw [heap_set v h.obj,e],by rw [hd];exact own_same h.rd (fun k hk=>heap_setCell_other w _ k v (h.fd k hk).2),by rw [hs];exact own_same h.rs (fun k hk=>heap_setCell_other w _ k v (h.fs k hk).2.1),h.fb,h.fd,h.fs⟩
theorem Chg.set {w w' : World} {F : Nat → Prop} (h : Chg F w w') (b i : Nat) (v : Value) (hF : F b) : Chg F w (w'.setCell ⟨b,i,none⟩ v):=h.trans1 (Chg.grown (grown_set (grown_refl _ _) v) hF)
def Inv (w : World) (b : Nat) (F : Nat → Prop) (B : Bf) : Prop:=∃ vd vs,Rep w b F B vd vs
theorem Inv.below {w w' : World} {b : Nat} {F : Nat → Prop} {B : Bf} (h : Inv w b F B) (hb : Below w.heap.size w w') : Inv w' b F B:=by obtain ⟨vd,vs,h⟩:=h;exact ⟨vd,vs,h.below hb⟩
theorem Inv.chg {w w' : World} {b : Nat} {F G : Nat → Prop} {B : Bf} (h : Inv w b F B) (hc : Chg G w w') (hd : ∀ k,F k → ¬ G k) : Inv w' b F B:=by obtain ⟨vd,vs,h⟩:=h;exact ⟨vd,vs,h.chg hc hd⟩
theorem Inv.drewN {w : World} {b : Nat} {F : Nat → Prop} {B : Bf} (h : Inv w b F B) (n : Nat) : Inv (w.drewN n) b F B:=by obtain ⟨vd,vs,h⟩:=h;exact ⟨vd,vs,h.drewN n⟩
structure Good (B : Bf) : Prop where
 l1 : 1 ≤ B.lim
 l2 : B.lim ≤ 8192
 b0 : 0 ≤ B.base
 b1 : B.base ≤ 1125899906842624
 len : B.st.length = B.data.length
 cap : (B.data.length : Int) ≤ B.lim
 s0 : B.base ≤ B.sent
 s1 : B.sent ≤ B.base + B.data.length
def newB (n : Int) : Bf:=⟨n,0,[],[],0,false,0⟩
theorem new_ok (n : Int) (w : World) (h1 : 1 ≤ n) (h2 : n ≤ 8192) :
  Calls Tryz.prog 120 #[.int .i64 n] w fun e w'=>e = .returned (.tuple #[.pointer (some ⟨w.heap.size,0,none⟩),.int .i64 0]) ∧ w' = w.alloc (.cells ((newB n).cells (.slice none 0 0) (.slice none 0 0)) 209):=by
 go_enter Tryz.func120,Tryz.ntmps120
 go_wp2
 go_returns
 exact ⟨rfl,rfl⟩
def spaceF (B : Bf) : Int:=if B.fin then 0 else B.lim - B.data.length
theorem space_any (b : Nat) (F : Nat → Prop) (B : Bf) (w : World) (h : Inv w b F B) (hg : Good B) :
  Calls Tryz.prog 122 #[.pointer (some ⟨b,0,none⟩)] w fun e w'=>e = .returned (.int .i64 (spaceF B)) ∧ ∃ m,w' = w.drewN m:=by
 obtain ⟨vd,vs,h⟩:=h
 obtain ⟨a,cap,rfl,hn⟩:=own_form h.rd
 obtain ⟨c0,c1,c2,c3,c4,c5,c6,fr⟩:=h.facts
 obtain ⟨l1,l2,b0,b1,len,cp,s0,s1⟩:=hg
 have hw : IntKind.i64.wrap (B.lim - (B.data.length : Int)) = B.lim - (B.data.length : Int):=IntWalk.i64_in _ (by omega)
 cases hf : B.fin
 ·have E:=Lib.hid (show spaceF B = B.lim - B.data.length from by unfold spaceF;rw [hf];rfl)
  rw [hf] at c5
  clear hf
  go_enter Tryz.func122,Tryz.ntmps122
  go_wp2
  go_quiet (fail)
  go_wp2
  go_ret
  exact ⟨by rw [E.out];try rfl,_,rfl⟩
 ·have E:=Lib.hid (show spaceF B = 0 from by unfold spaceF;rw [hf];rfl)
  rw [hf] at c5
  clear hf
  go_enter Tryz.func122,Tryz.ntmps122
  go_wp2
  go_ret
  exact ⟨by rw [E.out];try rfl,0,rfl⟩
def writtenF (B : Bf) : Int:=B.base + B.data.length
theorem written_any (b : Nat) (F : Nat → Prop) (B : Bf) (w : World) (h : Inv w b F B) (hg : Good B) :
  Calls Tryz.prog 79 #[.pointer (some ⟨b,0,none⟩)] w fun e w'=>e = .returned (.int .i64 (writtenF B)) ∧ ∃ m,w' = w.drewN m:=by
 obtain ⟨vd,vs,h⟩:=h
 obtain ⟨a,cap,rfl,hn⟩:=own_form h.rd
 obtain ⟨c0,c1,c2,c3,c4,c5,c6,fr⟩:=h.facts
 obtain ⟨l1,l2,b0,b1,len,cp,s0,s1⟩:=hg
 have hw : IntKind.i64.wrap (B.base + (B.data.length : Int)) = B.base + (B.data.length : Int):=IntWalk.i64_in _ (by omega)
 go_enter Tryz.func79,Tryz.ntmps79
 go_wp2
 go_quiet (fail)
 go_wp2
 go_ret
 exact ⟨rfl,_,rfl⟩
theorem finish_any (b : Nat) (F : Nat → Prop) (B : Bf) (w : World) (h : Inv w b F B) :
  Calls Tryz.prog 67 #[.pointer (some ⟨b,0,none⟩)] w fun e w'=>e = .returned (.tuple #[]) ∧ Chg F w w' ∧ Inv w' b F { B with fin:=true } ∧ w'.heap.size = w.heap.size:=by
 obtain ⟨vd,vs,h⟩:=h
 obtain ⟨c0,c1,c2,c3,c4,c5,c6,fr⟩:=h.facts
 have R:=Lib.hid h
 go_enter Tryz.func67,Tryz.ntmps67
 go_wp2
 go_returns
 exact ⟨rfl,(Chg.refl F w).set b 5 _ R.out.fb,⟨vd,vs,R.out.set 5 _ rfl rfl rfl⟩,by simp⟩
def openF (B : Bf) : Bool:=B.fin && (decide (B.ed = 0) || decide (B.ed = 2))
theorem open_any (b : Nat) (F : Nat → Prop) (B : Bf) (w : World) (h : Inv w b F B) :
  Calls Tryz.prog 209 #[.pointer (some ⟨b,0,none⟩)] w fun e w'=>e = .returned (.bool (openF B)) ∧ w' = w:=by
 obtain ⟨vd,vs,h⟩:=h
 obtain ⟨c0,c1,c2,c3,c4,c5,c6,fr⟩:=h.facts
 cases hf : B.fin
 ·have E:=Lib.hid (show openF B = false from by unfold openF;rw [hf];rfl)
  rw [hf] at c5
  clear hf
  go_enter Tryz.func209,Tryz.ntmps209
  go_wp2
  go_ret
  exact ⟨by rw [E.out];try rfl,rfl⟩
 ·rw [hf] at c5
  by_cases h1 : B.ed = 0
  ·have E:=Lib.hid (show openF B = true from by unfold openF;rw [hf,h1];rfl)
   rw [h1] at c6
   clear hf
   go_enter Tryz.func209,Tryz.ntmps209
   go_wp2
   go_ret
   exact ⟨by rw [E.out];try rfl,rfl⟩
  ·have E:=Lib.hid (show openF B = decide (B.ed = 2) from by unfold openF;rw [hf];simp [h1])
   clear hf
   go_enter Tryz.func209,Tryz.ntmps209
   go_wp2
   go_ret
   exact ⟨by rw [E.out];try rfl,rfl⟩
end
section
open Go.RowKit
section
variable {P : Program}
theorem run_append_zeros (w : World) (m : Nat) (base : Nat) (t tx ty e : TypeId) (i : TypeInfo) (z : Value) (size bytes : Nat) (ht : P.underlying t = some (.slice e)) (k : IntKind) (hk : P.underlying tx = some (.int k)) (hi : P.info? e = some i) (hz : i.zero = some z)
  (hsize : i.size = size) (hby : i.bytes = bytes) (hzs : z.cells.size = size) (hsz : 0 < size) (hz1 : ∀ u ∈ (Builtin.zeroCells z.cells m).toList,u.oneCell' = true)
  (v : Value) (n : Nat) (xs : List Value) (hown : w.ownsRow base e size v n xs) (hm : 0 < m)
  (h63 : n + m ≤ maxLen) (hbytes : (n + m) * bytes ≤ 140737488355328) (hbase : base ≤ w.heap.size) :
  ∃ v' w',(Builtin.append_ #[t,tx] ty #[v,.int .i64 m]).run P w = .ok v' w' ∧ w'.ownsRow base e size v' (n + m) (xs ++ (Builtin.zeroCells z.cells m).toList) ∧ w.grownBy w' v.ownBlock ∧ ∀ k,v'.ownBlock = some k → v.ownBlock = some k ∨ w.heap.size ≤ k:=by
 subst hsize
 subst hby
 have hsmall : n + m ≤ 9223372036854775807:=by simp only [maxLen] at h63;omega
 have hwr : IntKind.i64.wrap (m : Int) = m:=IntWalk.i64_in _ (by omega)
 have hb2 : ¬ (281474976710656 : Int) < (m : Int) * (i.bytes : Int):=by
  have : m * i.bytes ≤ (n + m) * i.bytes:=Nat.mul_le_mul_right _ (Nat.le_add_left _ _)
  have : ((m * i.bytes : Nat) : Int) ≤ 140737488355328:=by omega
  rw [Int.natCast_mul] at this
  omega
 have hneg : ¬ ((m : Int) < 0):=by omega
 have hms : ¬ (m * i.size = 0):=by
  intro h
  rcases Nat.mul_eq_zero.1 h with h | h <;> omega
 have hm0 : m ≠ 0:=by omega
 have hs0 : i.size ≠ 0:=by omega
 have hl : (Builtin.zeroCells z.cells m).toList.length = m * i.size:=by rw [Array.length_toList,size_zeroCells,hzs]
 rcases hown.2 with ⟨rfl,rfl⟩ | ⟨g,cap,cur,rfl,hbg,hg,hnc,hcm,hcs,htake⟩
 ·have hx : xs = []:=List.eq_nil_of_length_eq_zero (by simpa using hown.1)
  subst hx
  have ha:=new_after w base e z i.size 0 m [] (Builtin.zeroCells z.cells m).toList 0 (Value.ownBlock (.slice none 0 0)) hzs (by simp) hl h63 hbase
  refine ⟨_,_,?_,ha.1,ha.2,fun k hk=>.inr (by cases hk;exact Nat.le_refl _)⟩
  have h48' : ¬ (281474976710656 < Builtin.nextslicecap m 0 * i.bytes):=by
   have:=growslice_fits (need:=0 + m) (old:=0) (by omega) hbytes
   simpa using this
  have h63' : ¬ (9223372036854775807 < (m : Int)):=by omega
  simp [Builtin.append_,run_underlying ht,run_underlying hk,sizeOf,typeInfo,zeroValue,hi,hz,hwr,hneg,hb2,hms,hm0,h63',h48',Question.forced,newRow,grownCap,Builtin.firstCells,asInt,asIntOf]
  done
 ·by_cases hroom : n + m ≤ cap
  ·have hfit : n * i.size + (Builtin.zeroCells z.cells m).toList.length ≤ cur.size:=by rw [hl,hcs,← Nat.add_mul];exact Nat.mul_le_mul_right _ hroom
   have hst:=run_storeCells_at (P:=P) g (n * i.size) e (Builtin.zeroCells z.cells m).toList 0 cur w hg (by simpa using hfit) hz1
   simp only [Nat.add_zero] at hst
   have ha:=own_after w base e i.size n m xs (Builtin.zeroCells z.cells m).toList g cap cur hbg hg hcm hcs htake hown.1 hl hroom
   refine ⟨_,_,?_,ha.1,ha.2,fun k hk=>.inl hk⟩
   have hadd : (⟨g,0,none⟩ : Addr).add (n * i.size) = ⟨g,n * i.size,none⟩:=by rw [add_plain,Nat.zero_add]
   simp [Builtin.append_,run_underlying ht,run_underlying hk,sizeOf,typeInfo,zeroValue,hi,hz,hwr,hneg,hb2,hms,hroom,hadd,hst,asInt,asIntOf]
   done
  ·have holds : ∀ j u,xs[j]? = some u → w.cell? ((⟨g,0,none⟩ : Addr).add j) = some u:=hown.cells (g:=g) rfl
   have hold:=run_firstCells_some (P:=P) w.drew i.size n ⟨g,0,none⟩ n cap xs hown.1 (by simpa using holds)
   have ha:=new_after w base e z i.size n m xs (Builtin.zeroCells z.cells m).toList cap (some g) hzs hown.1 hl h63 hbase
   refine ⟨_,_,?_,ha.1,ha.2,fun k hk=>.inr (by cases hk;exact Nat.le_refl _)⟩
   have h48' : ¬ (281474976710656 < Builtin.nextslicecap (n + m) cap * i.bytes):=by
    have:=growslice_fits (need:=n + m) (old:=cap) (by omega) hbytes
    simpa using this
   have h63' : ¬ (9223372036854775807 < (n : Int) + (m : Int)):=by omega
   simp [Builtin.append_,run_underlying ht,run_underlying hk,sizeOf,typeInfo,zeroValue,hi,hz,hwr,hneg,hb2,hms,hroom,h63',h48',Question.forced,hold,newRow,grownCap,asInt,asIntOf]
   congr 2
   apply Array.ext'
   simp [List.append_assoc]
theorem zeroCells_int (k : IntKind) (m : Nat) : (Builtin.zeroCells (Value.int k 0).cells m).toList = (List.replicate m (0 : Int)).map (Value.int k):=by
 apply List.ext_getElem?
 intro j
 simp only [Builtin.zeroCells,Value.cells,Array.toList_map,List.getElem?_map,Array.toList_range,List.getElem?_replicate]
 by_cases h : j < m
 ·simp [h,Nat.mod_one]
 ·simp [h]
theorem step_append_src {ops : Array Oper} {o : Oper} {a : Act} {w : World} {K : Act → World → Prop} {Q : Exit → Act → World → Prop} {E : Prop} (hgd : o.guard = none) (s x : Operand) (t tx : TypeId)
  (ho : o.op = .call { callee:=.builtin .append,args:=#[s,x],argTypes:=#[t,tx] })
  (base : Nat) (e : TypeId) (i : TypeInfo) (z : Value) (size bytes : Nat) (ht : P.underlying t = some (.slice e)) (hi : P.info? e = some i) (hz : i.zero = some z)
  (hsize : i.size = size) (hby : i.bytes = bytes) (hzs : z.cells.size = size) (hsz : 0 < size)
  (v : Value) (n : Nat) (xs : List Value) (hs : a.eval s = v) (hown : w.ownsRow base e size v n xs)
  (sv : Value) (m : Nat) (news : List Value) (hx : a.eval x = sv) (hsrc : Src P size tx sv m news w)
  (h63 : n + m ≤ maxLen) (hbytes : (n + m) * bytes ≤ 140737488355328) (hbase : base ≤ w.heap.size)
  (h : ∀ v' w',w'.ownsRow base e size v' (n + m) (xs ++ news) → w.grownBy w' v.ownBlock → (∀ k,v'.ownBlock = some k → v.ownBlock = some k ∨ w.heap.size ≤ k) → K (a.put o.dst v') w') :
  if Region.wanted o (yielded ops a.tmps) = true then Oper.wp P o a w K Q else E:=by
 have hw : Region.wanted o (yielded ops a.tmps) = true:=by simp [Region.wanted,hgd]
 rw [if_pos hw]
 obtain ⟨v',w',hr,h2,h3,h4⟩:=run_append_src (P:=P) w base t tx o.type e i z size bytes ht hi hz hsize hby hzs hsz v n xs hown sv m news hsrc h63 hbytes hbase
 unfold Oper.wp execOp
 simp only [ho,resolve,invoke,builtin,Sem.run_bind,Sem.run_pure,Result.andThen_ok,List.map_toArray,List.map_cons,List.map_nil,hs,hx,hr]
 exact h v' w' h2 h3 h4
theorem wp_append_zeros {o : Oper} {a : Act} {w : World} {K : Act → World → Prop} {Q : Exit → Act → World → Prop} (s x : Operand) (t tx : TypeId)
  (ho : o.op = .call { callee:=.builtin .append,args:=#[s,x],argTypes:=#[t,tx] })
  (m : Nat) (base : Nat) (e : TypeId) (i : TypeInfo) (z : Value) (size bytes : Nat) (ht : P.underlying t = some (.slice e)) (k : IntKind) (hk : P.underlying tx = some (.int k)) (hi : P.info? e = some i) (hz : i.zero = some z)
  (hsize : i.size = size) (hby : i.bytes = bytes) (hzs : z.cells.size = size) (hsz : 0 < size) (hz1 : ∀ u ∈ (Builtin.zeroCells z.cells m).toList,u.oneCell' = true)
  (v : Value) (n : Nat) (xs : List Value) (hs : a.eval s = v) (hown : w.ownsRow base e size v n xs) (hx : a.eval x = .int .i64 m) (hm : 0 < m)
  (h63 : n + m ≤ maxLen) (hbytes : (n + m) * bytes ≤ 140737488355328) (hbase : base ≤ w.heap.size)
  (h : ∀ v' w',w'.ownsRow base e size v' (n + m) (xs ++ (Builtin.zeroCells z.cells m).toList) → w.grownBy w' v.ownBlock → (∀ k,v'.ownBlock = some k → v.ownBlock = some k ∨ w.heap.size ≤ k) → K (a.put o.dst v') w') : o.wp P a w K Q:=by
 obtain ⟨v',w',hr,h2,h3,h4⟩:=run_append_zeros (P:=P) w m base t tx o.type e i z size bytes ht k hk hi hz hsize hby hzs hsz hz1 v n xs hown hm h63 hbytes hbase
 unfold Oper.wp execOp
 simp only [ho,resolve,invoke,builtin,Sem.run_bind,Sem.run_pure,Result.andThen_ok,List.map_toArray,List.map_cons,List.map_nil,hs,hx,hr]
 exact h v' w' h2 h3 h4
theorem wpList_append_zeros {ops : Array Oper} {rest : List Oper} {o : Oper} {a : Act} {w : World} {Q : Exit → Act → World → Prop} (hgd : o.guard = none) (s x : Operand) (t tx : TypeId)
  (ho : o.op = .call { callee:=.builtin .append,args:=#[s,x],argTypes:=#[t,tx] })
  (m : Nat) (base : Nat) (e : TypeId) (i : TypeInfo) (z : Value) (size bytes : Nat) (ht : P.underlying t = some (.slice e)) (k : IntKind) (hk : P.underlying tx = some (.int k)) (hi : P.info? e = some i) (hz : i.zero = some z)
  (hsize : i.size = size) (hby : i.bytes = bytes) (hzs : z.cells.size = size) (hsz : 0 < size) (hz1 : ∀ u ∈ (Builtin.zeroCells z.cells m).toList,u.oneCell' = true)
  (v : Value) (n : Nat) (xs : List Value) (hs : a.eval s = v) (hown : w.ownsRow base e size v n xs) (hx : a.eval x = .int .i64 m) (hm : 0 < m)
  (h63 : n + m ≤ maxLen) (hbytes : (n + m) * bytes ≤ 140737488355328) (hbase : base ≤ w.heap.size)
  (h : ∀ v' w',w'.ownsRow base e size v' (n + m) (xs ++ (Builtin.zeroCells z.cells m).toList) → w.grownBy w' v.ownBlock → (∀ k,v'.ownBlock = some k → v.ownBlock = some k ∨ w.heap.size ≤ k) → wpList P ops Q rest (a.put o.dst v') w') : wpList P ops Q (o :: rest) a w:=
 wpList_plain hgd fun _ hK=>wp_append_zeros s x t tx ho m base e i z size bytes ht k hk hi hz hsize hby hzs hsz hz1 v n xs hs hown hx hm h63 hbytes hbase fun v' w' h2 h3 h4=>hK _ _ (h v' w' h2 h3 h4)
end
end
section
open Go.RowKit
def bytesOf (s : ByteArray) : List Int:=s.data.toList.map fun b=>(b.toNat : Int)
theorem byteCells_of (s : ByteArray) : byteCells s = (bytesOf s).map (.int .u8):=by
 unfold byteCells bytesOf
 rw [List.map_map]
 rfl
theorem bytesOf_length (s : ByteArray) : (bytesOf s).length = s.size:=by
 unfold bytesOf
 rw [List.length_map,Array.length_toList]
 rfl
theorem bytesOf_take (s : ByteArray) (n : Nat) : bytesOf (s.extract 0 n) = (bytesOf s).take n:=by
 simp [bytesOf,ByteArray.data_extract,List.map_take]
def writeN (B : Bf) (s : ByteArray) : Nat:=min s.size (spaceF B).toNat
def writeF (B : Bf) (s : ByteArray) : Bf:={ B with data:=B.data ++ (bytesOf s).take (writeN B s),st:=B.st ++ List.replicate (writeN B s) 0 }
theorem Rep.heapb {w w3 : World} {b : Nat} {F : Nat → Prop} {B : Bf} {vd vs : Value} (R : Rep w b F B vd vs) {v : Value} (hv : v = vd ∨ v = vs) (hg : w.grownBy w3 v.ownBlock) : w3.heap[b]? = some (.cells (B.cells vd vs) 209 (0,0)):=
 (hg.block b (heap_lt R.obj) (fun e=>by rcases hv with rfl | rfl;exact (R.fd b e.symm).2 rfl;exact (R.fs b e.symm).2.1 rfl)).trans R.obj
theorem Rep.newData {w w3 : World} {b : Nat} {F : Nat → Prop} {B B' : Bf} {vd vs v1 : Value} (R : Rep w b F B vd vs) (hg : w.grownBy w3 vd.ownBlock) (hk : ∀ k,v1.ownBlock = some k → vd.ownBlock = some k ∨ w.heap.size ≤ k)
  (ho : w3.ownsRow 0 5 1 v1 B'.data.length (B'.data.map (.int .u8))) (e : (B.cells vd vs).setIfInBounds 2 v1 = B'.cells v1 vs) (hs : B'.st = B.st) :
  Chg F w (w3.setCell ⟨b,2,none⟩ v1) ∧ Rep (w3.setCell ⟨b,2,none⟩ v1) b (Ext F w (w3.setCell ⟨b,2,none⟩ v1)) B' v1 vs:=by
 have hb:=R.heapb (.inl rfl) hg
 have hvd : ∀ k,v1.ownBlock = some k → k ≠ b:=fun k h e=>by
  subst e
  rcases hk k h with h1 | h1
  ·exact (R.fd k h1).2 rfl
  ·exact Nat.not_le.2 (heap_lt R.obj) h1
 have hvs : ∀ k,vs.ownBlock = some k → w3.heap[k]? = w.heap[k]?:=fun k h=>hg.block k (own_lt R.rs k h) (fun e=>(R.fs k h).2.2 e.symm)
 refine ⟨(Chg.grownO hg (fun k h=>(R.fd k h).1)).set b 2 _ R.fb,⟨by rw [heap_set v1 hb,e],own_same ho (fun k h=>heap_setCell_other w3 _ k v1 (hvd k h)),?_,.inl R.fb,fun k h=>⟨?_,hvd k h⟩,fun k h=>⟨.inl (R.fs k h).1,(R.fs k h).2.1,fun h1=>?_⟩⟩⟩
 ·rw [hs]
  exact own_same R.rs (fun k h=>(heap_setCell_other w3 _ k v1 (R.fs k h).2.1).trans (hvs k h))
 ·rcases hk k h with h1 | h1
  ·exact .inl (R.fd k h1).1
  ·exact .inr ⟨h1,by simpa using own_lt ho k h⟩
 ·rcases hk k h1 with h2 | h2
  ·exact (R.fs k h).2.2 h2
  ·exact Nat.not_le.2 (own_lt R.rs k h) h2
theorem Rep.newStates {w w3 : World} {b : Nat} {F : Nat → Prop} {B B' : Bf} {vd vs v1 : Value} (R : Rep w b F B vd vs) (hg : w.grownBy w3 vs.ownBlock) (hk : ∀ k,v1.ownBlock = some k → vs.ownBlock = some k ∨ w.heap.size ≤ k)
  (ho : w3.ownsRow 0 207 1 v1 B'.st.length (B'.st.map (.int .u8))) (e : (B.cells vd vs).setIfInBounds 3 v1 = B'.cells vd v1) (hs : B'.data = B.data) :
  Chg F w (w3.setCell ⟨b,3,none⟩ v1) ∧ Rep (w3.setCell ⟨b,3,none⟩ v1) b (Ext F w (w3.setCell ⟨b,3,none⟩ v1)) B' vd v1:=by
 have hb:=R.heapb (.inr rfl) hg
 have hvd : ∀ k,v1.ownBlock = some k → k ≠ b:=fun k h e=>by
  subst e
  rcases hk k h with h1 | h1
  ·exact (R.fs k h1).2.1 rfl
  ·exact Nat.not_le.2 (heap_lt R.obj) h1
 have hvs : ∀ k,vd.ownBlock = some k → w3.heap[k]? = w.heap[k]?:=fun k h=>hg.block k (own_lt R.rd k h) (fun e=>(R.fs k e.symm).2.2 h)
 refine ⟨(Chg.grownO hg (fun k h=>(R.fs k h).1)).set b 3 _ R.fb,⟨by rw [heap_set v1 hb,e],?_,own_same ho (fun k h=>heap_setCell_other w3 _ k v1 (hvd k h)),.inl R.fb,fun k h=>⟨.inl (R.fd k h).1,(R.fd k h).2⟩,fun k h=>⟨?_,hvd k h,fun h1=>?_⟩⟩⟩
 ·rw [hs]
  exact own_same R.rd (fun k h=>(heap_setCell_other w3 _ k v1 (R.fd k h).2).trans (hvs k h))
 ·rcases hk k h with h1 | h1
  ·exact .inl (R.fs k h1).1
  ·exact .inr ⟨h1,by simpa using own_lt ho k h⟩
 ·rcases hk k h with h2 | h2
  ·exact (R.fs k h2).2.2 h1
  ·exact Nat.not_le.2 (own_lt R.rd k h1) h2
theorem ext_ext {F : Nat → Prop} {w w1 w4 w6 : World} (h1 : w.heap.size ≤ w1.heap.size) (h2 : w1.heap.size ≤ w4.heap.size) (h3 : w4.heap.size ≤ w6.heap.size) (k : Nat) (h : Ext (Ext F w1 w4) w4 w6 k) : Ext F w w6 k:=by
 rcases h with (h | h) | h
 ·exact .inl h
 iterate 2 (· exact .inr ⟨by omega,by omega⟩)
theorem ext_left {F : Nat → Prop} {w w1 w4 : World} (h1 : w.heap.size ≤ w1.heap.size) (k : Nat) (h : Ext F w1 w4 k) : Ext F w w4 k:=by
 rcases h with h | h
 ·exact .inl h
 ·exact .inr ⟨by omega,h.2⟩
theorem facts5 : (∃ i,Tryz.prog.info? 5 = some i ∧ i.zero = some (.int .u8 0) ∧ i.size = 1 ∧ i.bytes = 1):=⟨_,rfl,rfl,rfl,rfl⟩
theorem facts57 : (∃ i,Tryz.prog.info? 207 = some i ∧ i.zero = some (.int .u8 0) ∧ i.size = 1 ∧ i.bytes = 1):=⟨_,rfl,rfl,rfl,rfl⟩
theorem one_u8 (m : Nat) : ∀ u ∈ (Builtin.zeroCells (Value.int .u8 0).cells m).toList,u.oneCell' = true:=by
 rw [zeroCells_int];exact ints_oneCell _ _
theorem write_any (b : Nat) (F : Nat → Prop) (B : Bf) (s : ByteArray) (w : World) (h : Inv w b F B) (hg : Good B) (_hs : s.size ≤ maxLen) :
  Calls Tryz.prog 60 #[.pointer (some ⟨b,0,none⟩),.string s] w fun e w'=>e = .returned (.int .i64 (writeN B s : Int)) ∧ Chg F w w' ∧ Inv w' b (Ext F w w') (writeF B s):=by
 have SP:=Lib.hid (fun m=>space_any b F B (w.drewN m) (h.drewN m) hg)
 obtain ⟨i5,p1,p2,p3,p4⟩:=facts5
 have P1:=Lib.hid p1;have P2:=Lib.hid p2;have P3:=Lib.hid p3;have P4:=Lib.hid p4
 clear p1 p2 p3 p4
 obtain ⟨i57,q1,q2,q3,q4⟩:=facts57
 have Q1:=Lib.hid q1;have Q2:=Lib.hid q2;have Q3:=Lib.hid q3;have Q4:=Lib.hid q4
 clear q1 q2 q3 q4
 obtain ⟨l1,l2,b0,b1,len,cp,s0,s1⟩:=hg
 have hsp : 0 ≤ spaceF B ∧ spaceF B ≤ 8192:=by unfold spaceF;split <;> omega
 obtain ⟨n,hn⟩ : ∃ n,writeN B s = n:=⟨_,rfl⟩
 have hmin : (n : Int) ≤ s.size ∧ (n : Int) ≤ spaceF B:=by unfold writeN at hn;omega
 have HW:=Lib.hid (show writeF B s = { B with data:=B.data ++ (bytesOf s).take n,st:=B.st ++ List.replicate n 0 } from by unfold writeF;rw [hn])
 obtain ⟨vd,vs,h⟩:=h
 have HR:=Lib.hid h
 rw [hn]
 have hmn : (if spaceF B < (s.size : Int) then spaceF B else (s.size : Int)) = n:=by unfold writeN at hn;split <;> omega
 clear hn
 generalize spaceF B = sp at *
 obtain ⟨hm1,hm2⟩:=hmin
 have hn9 : n ≤ 8192:=by omega
 by_cases h0 : n = 0
 ·subst h0
  go_enter Tryz.func60,Tryz.ntmps60
  go_wp2_with (go_at_call 122;refine (SP.out 0).mono ?_;rintro e w' ⟨rfl,m,rfl⟩)
  all_goals go_ret
  refine ⟨rfl,⟨rfl,rfl,rfl,Nat.le_refl _,fun _ _ _=>rfl⟩,vd,vs,?_⟩
  rw [HW.out]
  simpa using (HR.out.drewN m).ext (fun k h=>.inl h)
 ·have hns : n ≤ s.size:=by omega
  have hsz : (s.extract 0 n).size = n:=by simp [ByteArray.size_extract];omega
  have HS:=Lib.hid hsz
  have hd9 : B.data.length ≤ 8192:=by omega
  have hs9 : B.st.length ≤ 8192:=by omega
  clear hsz len
  go_enter Tryz.func60,Tryz.ntmps60
  go_wp2_with (go_at_call 122;refine (SP.out 0).mono ?_;rintro e w' ⟨rfl,m,rfl⟩)
  have HR1:=Lib.hid (HR.out.drewN m)
  have HC : Hid (Chg F w (w.drewN m)):=Lib.hid ⟨rfl,rfl,rfl,Nat.le_refl _,fun _ _ _=>rfl⟩
  change Code.wp _ _ _ _ (w.drewN m)
  generalize w.drewN m = w1 at *
  obtain ⟨c0,c1,c2,c3,c4,c5,c6,fr⟩:=HR1.out.facts
  clear c0 c1 c3 c4 c5 c6
  go_region_law ((refine step_append_src (by rfl) _ _ _ _ (by rfl) 0 5 i5 _ 1 1 Tryz.underlying52 P1.out P2.out P3.out P4.out rfl (by omega) vd B.data.length _ (by rfl) HR1.out.drew.rd (.string (s.extract 0 n)) _ _ (by rfl) (Src.ofString _ Tryz.underlying9 _) (by rw [HS.out];unfold maxLen;omega) (by rw [HS.out];omega) (Nat.zero_le _) ?_;intro v1 w3 ho1 hg1 hk1;obtain ⟨a1,cap1,rfl,hcap1⟩:=own_form ho1;have c2':=(cell_whole (HR1.out.drew.heapb (.inl rfl) hg1) 2).trans (rfl : _ = some vd);have fr':=frozen_whole (HR1.out.drew.heapb (.inl rfl) hg1)))
  all_goals
   have hL : B.data.length + (s.extract 0 n).size = B.data.length + n:=by rw [HS.out]
   rw [hL] at ho1 hk1 hcap1
   have hdl : (B.data ++ (bytesOf s).take n).length = B.data.length + n:=by rw [List.length_append,List.length_take,bytesOf_length];omega
   have N1:=Lib.hid (Rep.newData (B':={ B with data:=B.data ++ (bytesOf s).take n }) HR1.out.drew hg1 hk1 (by rw [byteCells_of,bytesOf_take,← List.map_append] at ho1;simpa only [hdl] using ho1) rfl rfl)
   have C1:=Lib.hid (show Chg F w _ from HC.out.trans1 ((Chg.refl F w1).drew.trans1 N1.out.1))
   clear ho1 hk1 hcap1 hg1 c2' fr' c2 fr
   generalize w3.setCell ⟨b,2,none⟩ (Value.slice a1 (B.data.length + n) cap1) = w4 at *
   generalize hV : Value.slice a1 (B.data.length + n) cap1 = vd1 at *
   have hW1 : w1.heap.size ≤ w4.heap.size:=N1.out.1.size
   obtain ⟨c0,c1,c2,c3,c4,c5,c6,fr⟩:=N1.out.2.facts
   clear c0 c1 c2 c4 c5 c6
   go_wp2_with (at_builtin;refine wpList_append_zeros rfl _ _ _ _ rfl n 0 207 i57 _ 1 1 Tryz.underlying206 .i64 Tryz.underlying3 Q1.out Q2.out Q3.out Q4.out rfl (by omega) (one_u8 n) vs B.st.length _ rfl N1.out.2.rs rfl (by omega) (by unfold maxLen;omega) (by omega) (Nat.zero_le _) ?_;intro v2 w5 ho2 hg2 hk2;obtain ⟨a2,cap2,rfl,hcap2⟩:=own_form ho2;have c3':=(cell_whole (N1.out.2.heapb (.inr rfl) hg2) 3).trans (rfl : _ = some vs);have fr':=frozen_whole (N1.out.2.heapb (.inr rfl) hg2))
   have hsl : (B.st ++ List.replicate n 0).length = B.st.length + n:=by rw [List.length_append,List.length_replicate]
   have N2:=Lib.hid (Rep.newStates (B':={ B with data:=B.data ++ (bytesOf s).take n,st:=B.st ++ List.replicate n 0 }) N1.out.2 hg2 hk2 (by rw [zeroCells_int,← List.map_append] at ho2;simpa only [hsl] using ho2) rfl rfl)
   clear ho2 hk2 hcap2 hg2 c3' fr' c3 fr
   go_ret
   have z1:=HC.out.size
   have z2:=N2.out.1.size
   refine ⟨rfl,C1.out.trans (N2.out.1.mono (ext_left z1)),?_⟩
   rw [HW.out]
   exact ⟨_,_,N2.out.2.ext (ext_ext (w1:=w1.drew) z1 hW1 z2)⟩
end
section
open Go.RowKit
theorem own_cells {w : World} {e : TypeId} {v : Value} {n : Nat} {xs : List Int} {k : IntKind} (h : w.ownsRow 0 e 1 v n (xs.map (.int k))) (h0 : 0 < n) :
  ∃ g cap,v = .slice (some ⟨g,0,none⟩) n cap ∧ n ≤ cap ∧ cap ≤ maxLen ∧ (∀ j,j < n → w.cell? ⟨g,j,none⟩ = some (.int k (xs[j]?.getD 0))) ∧ (∀ j,w.frozen? ⟨g,j,none⟩ = false):=by
 obtain ⟨hl,h⟩:=h
 rcases h with ⟨_,rfl⟩ | ⟨g,cap,cur,rfl,hb,hg,hn,hc,hs,ht⟩
 ·omega
 ·refine ⟨g,cap,rfl,hn,hc,fun j hj=>?_,frozen_whole hg⟩
  have hj2 : j < xs.length:=by simp at hl;omega
  have : (cur.toList.take (n * 1))[j]? = some (.int k (xs[j]?.getD 0)):=by rw [ht];simp [hj2]
  rw [List.getElem?_take_of_lt (by omega)] at this
  simp only [World.cell?,hg]
  simpa using this
def runGo (most : Int) : List Int → Int → Int → Int → Int × Int
 | [],_,f,t=>(f,t)
 | s :: l,i,f,t=>if f < t ∧ (s ≠ 2 ∨ t - f = most) then (f,t) else if s = 2 ∧ t = f then runGo most l (i + 1) i (i + 1) else if s = 2 then runGo most l (i + 1) f (t + 1) else runGo most l (i + 1) f t
def runF (B : Bf) (most : Int) : Int × Int:=runGo most B.st 0 0 0
theorem run_any (b : Nat) (F : Nat → Prop) (B : Bf) (most : Int) (w : World) (h : Inv w b F B) (hg : Good B) :
  Calls Tryz.prog 207 #[.pointer (some ⟨b,0,none⟩),.int .i64 most] w fun e w'=>e = .returned (.tuple #[.int .i64 (runF B most).1,.int .i64 (runF B most).2]) ∧ w' = w:=by
 obtain ⟨vd,vs,h⟩:=h
 have hn9 : B.st.length ≤ 8192:=by have:=hg.len;have:=hg.cap;have:=hg.l2;omega
 have HF:=Lib.hid (own_cells h.rs)
 obtain ⟨a,cap,rfl,hcap⟩:=own_form h.rs
 obtain ⟨c0,c1,c2,c3,c4,c5,c6,fr⟩:=h.facts
 clear c0 c1 c2 c4 c5 c6 hg
 obtain ⟨RES,hres⟩ : ∃ R,runF B most = R:=⟨_,rfl⟩
 rw [hres]
 unfold runF at hres
 have HRES:=Lib.hid hres
 clear hres
 generalize B.st = st at *
 go_enter Tryz.func207,Tryz.ntmps207
 go_wp2
 go_step3
 go_wp2
 go_step3
 go_wp2
 have hdrop : ∀ k,k < st.length → st.drop k = (st[k]?.getD 0) :: st.drop (k + 1):=fun k hk=>by rw [List.drop_eq_getElem_cons hk];simp [hk]
 have HD:=Lib.hid hdrop
 clear hdrop
 go_loopw [4,5,13] (fun f t i wr=>∃ (k : Nat) (x y : Int),k ≤ st.length ∧ i = .int .i64 k ∧ f = .int .i64 x ∧ t = .int .i64 y ∧ 0 ≤ x ∧ x ≤ y ∧ y ≤ k ∧ runGo most (st.drop k) k x y = RES ∧ wr = w) (fun _ _ i _=>st.length - (intOf i).toNat)
 case atStart=>exact ⟨0,0,0,by omega,rfl,rfl,rfl,by omega,by omega,by omega,HRES.out,rfl⟩
 case round=>
  obtain ⟨k,x,y,hk,rfl,rfl,rfl,hx0,hxy,hyk,hR,rfl⟩:=hrel
  by_cases hlt : k < st.length
  ·obtain ⟨g,cp,e,hc1,hc2,hcell,hfr⟩:=HF.out (by omega)
   simp only [Value.slice.injEq] at e
   obtain ⟨rfl,_,rfl⟩:=e
   have e1:=hcell k hlt
   unfold maxLen at hc2
   rw [HD.out k hlt,runGo] at hR
   clear hcell hfr
   obtain ⟨s,hs⟩ : ∃ s,st[k]?.getD 0 = s:=⟨_,rfl⟩
   rw [hs] at e1 hR
   clear hs
   by_cases ht : x < y
   ·by_cases hs2 : s = 2
    ·subst hs2
     by_cases hm : y - x = most
     ·have HE : Hid ((x,y) = RES):=Lib.hid (by rw [if_pos ⟨ht,.inr hm⟩] at hR;exact hR)
      clear hR
      go_wp2
      rw [Exit.noGoto_ret]
      go_returns
      exact ⟨by rw [← HE.out];rfl,rfl⟩
     ·rw [if_neg (by rintro ⟨_,h | h⟩ <;> omega),if_neg (by omega),if_pos rfl] at hR
      have HE:=Lib.hid hR
      clear hR
      go_wp2
      go_roundw
      case rel=>exact ⟨k + 1,x,y + 1,by omega,by simp,rfl,rfl,by omega,by omega,by omega,HE.out,trivial⟩
      case measure=>simp [intOf];omega
    ·have HE : Hid ((x,y) = RES):=Lib.hid (by rw [if_pos ⟨ht,.inl hs2⟩] at hR;exact hR)
     clear hR
     go_wp2
     rw [Exit.noGoto_ret]
     go_returns
     exact ⟨by rw [← HE.out];rfl,rfl⟩
   ·obtain rfl : x = y:=by omega
    rw [if_neg (by omega)] at hR
    by_cases hs2 : s = 2
    ·subst hs2
     rw [if_pos ⟨rfl,rfl⟩] at hR
     have HE:=Lib.hid hR
     clear hR
     go_wp2
     go_roundw
     case rel=>exact ⟨k + 1,k,k + 1,by omega,by simp,rfl,by simp,by omega,by omega,by omega,HE.out,trivial⟩
     case measure=>simp [intOf];omega
    ·rw [if_neg (by omega),if_neg hs2] at hR
     have HE:=Lib.hid hR
     clear hR
     go_wp2
     go_roundw
     case rel=>exact ⟨k + 1,x,x,by omega,by simp,rfl,rfl,by omega,by omega,by omega,HE.out,trivial⟩
     case measure=>simp [intOf];omega
  ·obtain rfl : k = st.length:=by omega
   rw [List.drop_length,runGo] at hR
   have HE:=Lib.hid hR
   clear hR
   go_wp2
   rw [Exit.noGoto_ret]
   go_returns
   exact ⟨by rw [← HE.out];rfl,rfl⟩
end
section
open Go.RowKit
structure Fr where
 ty : Int
 str : Int
 off : Int
 s : ByteArray
 fin : Bool
 max : Int
 code : Int
 uni : Bool
 delay : Int
 ranges : Value
 seq : Int
 retire : Int
 cid : ByteArray
def Fr.cells (f : Fr) : Array Value:=#[.int .i64 f.ty,.int .i64 f.str,.int .i64 f.off,.string f.s,.bool f.fin,.int .i64 f.max,.int .i64 f.code,.bool f.uni,.int .i64 f.delay,f.ranges,.int .i64 f.seq,.int .i64 f.retire,.string f.cid]
def Fr.val (f : Fr) : Value:=.agg f.cells
def mkFr (ty off : Int) (s : ByteArray) (fin : Bool) : Fr:=⟨ty,0,off,s,fin,0,0,false,0,.slice none 0 0,0,0,⟨#[]⟩⟩
def setTo (st : List Int) (v : Int) (i : Nat) : Nat → List Int
 | 0=>st
 | n + 1=>(setTo st v i n).set (i + n) v
theorem setTo_length (st : List Int) (v : Int) (i n : Nat) : (setTo st v i n).length = st.length:=by
 induction n with
 | zero=>rfl
 | succ n ih=>simp [setTo,ih]
theorem Rep.setState {w : World} {b : Nat} {F : Nat → Prop} {B : Bf} {vd : Value} {g cap n : Nat} (R : Rep w b F B vd (.slice (some ⟨g,0,none⟩) n cap)) (k : Nat) (_hk : k < B.st.length) (v : Int) :
  Rep (w.setCell ⟨g,k,none⟩ (.int .u8 v)) b F { B with st:=B.st.set k v } vd (.slice (some ⟨g,0,none⟩) n cap) ∧ Chg F w (w.setCell ⟨g,k,none⟩ (.int .u8 v)):=by
 have hgb:=R.fs g rfl
 refine ⟨⟨(heap_setCell_other w _ b _ (fun e=>hgb.2.1 e.symm)).trans R.obj,own_same R.rd (fun j hj=>heap_setCell_other w _ j _ (fun e=>hgb.2.2 (by rw [hj];exact congrArg some e))),?_,R.fb,R.fd,R.fs⟩,(Chg.refl F w).set g k _ hgb.1⟩
 obtain ⟨hl,h⟩:=R.rs
 rcases h with ⟨e,_⟩ | ⟨g',cap',cur,e,h2,h3,h4,h5,h6,h7⟩
 ·cases e
 ·simp only [Value.slice.injEq,Option.some.injEq,Addr.mk.injEq] at e
  obtain ⟨⟨rfl,_,_⟩,rfl,rfl⟩:=e
  refine ⟨by simp,.inr ⟨g,cap,cur.setIfInBounds k (.int .u8 v),by simp,h2,heap_set _ h3,by simpa using h4,h5,by simpa using h6,?_⟩⟩
  simp only [List.length_set,Nat.mul_one] at *
  rw [Array.toList_setIfInBounds,List.take_set,h7,List.map_set]
end
end Go.Proofs.YthckbmcmdcemkaaGreatDoor
