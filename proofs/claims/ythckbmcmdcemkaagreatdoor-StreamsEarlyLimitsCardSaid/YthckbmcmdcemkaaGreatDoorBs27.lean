/- Texts of this claim, one behind the other: Ta Nh Mc Ni Nj. -/
import Derived.Test.YthckbmcmdcemkaaGreatDoorBs26
import Derived.Test.YthckbmcmdcemkaaGreatDoorBs23
import Derived.Test.YthckbmcmdcemkaaGreatDoorBs4
import Derived.Test.YthckbmcmdcemkaaGreatDoorBs6
import Derived.RangeFuncNested
import Derived.Laws.AppendOwn
import Derived.Deep.RegionLaw
import Derived.StillTailTactics
import Derived.Great.BuildSlice
import Derived.Deep.MidRow
import Derived.Deep.WholeRow
set_option maxRecDepth 100000
set_option maxHeartbeats 16000000
set_option linter.unusedSimpArgs false
set_option linter.unusedVariables false
namespace Go.Proofs.YthckbmcmdcemkaaGreatDoor.stm
section
open Go.RowKit Go.Maps
theorem Open_nil (b : Bool) (w : World) : Calls Tryz.prog 18 #[.pointer none,.bool b] w fun e w'=>e = .returned (.tuple #[.int .i64 0,.int .i64 1]) ∧ w = w':=by
 go_enter Tryz.func18,Tryz.ntmps18
 go_wp2
 go_returns
 exact ⟨rfl,rfl⟩
theorem Receive_nil (f : Fr) (w : World) : Calls Tryz.prog 24 #[.pointer none,.agg f.cells] w fun e w'=>e = .returned (.int .i64 1) ∧ Below w.heap.size w w':=by
 have X:=Lib.hid ((Below.refl w.heap.size w).alloc (Nat.le_refl _) (.cells f.cells 38))
 unfold Fr.cells at *
 go_enter Tryz.func24,Tryz.ntmps24
 go_wp2
 go_ret
 exact ⟨rfl,X.out⟩
theorem New_no (cl : Bool) (loc peer : Pms) (h : pmOk loc = false ∨ pmOk peer = false ∨ 8192 < loc.sdata) (w : World) :
  Calls Tryz.prog 17 #[.bool cl,.agg loc.cs,.agg peer.cs] w fun e w'=>e = .returned (.tuple #[.pointer none,.int .i64 200]) ∧ Below w.heap.size w w':=by
 have IR:=Lib.hid (fun (p : Pms) (wx : World)=>inRange_any p wx)
 have IL:=Lib.hid (IR.out loc)
 have IP:=Lib.hid (IR.out peer)
 clear IR
 obtain ⟨ok1,e1⟩ : ∃ ok1,pmOk loc = ok1:=⟨_,rfl⟩
 obtain ⟨ok2,e2⟩ : ∃ ok2,pmOk peer = ok2:=⟨_,rfl⟩
 rw [e1,e2] at h
 rw [e1] at IL
 rw [e2] at IP
 clear e1 e2
 have HH:=Lib.hid h
 clear h
 obtain ⟨ld,ls,lb,lu,la,li⟩:=loc
 obtain ⟨pd,ps,pb,pu,pa,pi⟩:=peer
 have X:=Lib.hid (box2 w (.cells #[.int .i64 ld,.int .i64 ls,.int .i64 lb,.int .i64 lu,.int .i64 la,.int .i64 li] 24) (.cells #[.int .i64 pd,.int .i64 ps,.int .i64 pb,.int .i64 pu,.int .i64 pa,.int .i64 pi] 24))
 simp only [Pms.cs] at *
 go_enter Tryz.func17,Tryz.ntmps17
 go_upto_region 1 with (fail)
 obtain ⟨X1,X2,X3,X4⟩:=X.out
 generalize hb0 : w.heap.size + 1 = b1 at *
 obtain ⟨b0,hbb⟩ : ∃ b0,w.heap.size = b0:=⟨_,rfl⟩
 rw [hbb] at X1 ⊢
 have XB:=Lib.hid X3
 clear X hb0 X3
 generalize World.alloc _ _ = W0 at *
 have OLD : Hid (∀ wx : World,Below W0.heap.size W0 wx → wx.cell? ⟨b0,0,none⟩ = some (.int .i64 ld) ∧ wx.cell? ⟨b0,1,none⟩ = some (.int .i64 ls) ∧ wx.cell? ⟨b0,2,none⟩ = some (.int .i64 lb) ∧ wx.cell? ⟨b0,3,none⟩ = some (.int .i64 lu) ∧ wx.cell? ⟨b0,4,none⟩ = some (.int .i64 la) ∧ wx.cell? ⟨b0,5,none⟩ = some (.int .i64 li) ∧ wx.cell? ⟨b1,0,none⟩ = some (.int .i64 pd) ∧ wx.cell? ⟨b1,1,none⟩ = some (.int .i64 ps) ∧ wx.cell? ⟨b1,2,none⟩ = some (.int .i64 pb) ∧ wx.cell? ⟨b1,3,none⟩ = some (.int .i64 pu) ∧ wx.cell? ⟨b1,4,none⟩ = some (.int .i64 pa) ∧ wx.cell? ⟨b1,5,none⟩ = some (.int .i64 pi)):=Lib.hid (fun wx hb=>by
  have e0:=heap_below hb X1
  have e1:=heap_below hb X2
  exact ⟨at_whole' e0 rfl,at_whole' e0 rfl,at_whole' e0 rfl,at_whole' e0 rfl,at_whole' e0 rfl,at_whole' e0 rfl,at_whole' e1 rfl,at_whole' e1 rfl,at_whole' e1 rfl,at_whole' e1 rfl,at_whole' e1 rfl,at_whole' e1 rfl⟩)
 clear X1 X2 X4
 have HBB:=Lib.hid hbb
 clear hbb
 obtain ⟨q0,q1,q2,q3,q4,q5,q6,q7,q8,q9,q10,q11⟩:=OLD.out W0 bz0
 have T1:=Lib.hid True.intro
 cases ok1
 ·go_wp2_with (go_at_call 55;refine (IL.out _).mono ?_;rintro e w1 ⟨rfl,hb⟩;have B1:=Lib.hid hb;clear hb q0 q1 q2 q3 q4 q5 q6 q7 q8 q9 q10 q11)
  go_returns
  exact ⟨rfl,HBB.out ▸ btr2 XB.out B1.out⟩
 ·cases ok2
  ·go_wp2_with (first
    | (go_at_call 55;have T0:=T1.out;clear T0 T1;refine (IL.out _).mono ?_;rintro e w1 ⟨rfl,hb⟩;clear q0 q1 q2 q3 q4 q5 q6 q7 q8 q9 q10 q11;obtain ⟨q0,q1,q2,q3,q4,q5,q6,q7,q8,q9,q10,q11⟩:=OLD.out _ hb;have B1:=Lib.hid hb;clear hb)
    | (go_at_call 55;refine (IP.out _).mono ?_;rintro e w2 ⟨rfl,hb⟩;have B2:=Lib.hid (btr2 B1.out hb);clear hb q0 q1 q2 q3 q4 q5 q6 q7 q8 q9 q10 q11))
   go_returns
   exact ⟨rfl,HBB.out ▸ btr2 XB.out B2.out⟩
  ·have hs : 8192 < ls:=by exact (HH.out.resolve_left (by decide)).resolve_left (by decide)
   have d1 : (8192 < ls) = True:=eq_true hs
   clear hs
   go_wp2_with (first
    | (go_at_call 55;have T0:=T1.out;clear T0 T1;refine (IL.out _).mono ?_;rintro e w1 ⟨rfl,hb⟩;clear q0 q1 q2 q3 q4 q5 q6 q7 q8 q9 q10 q11;obtain ⟨q0,q1,q2,q3,q4,q5,q6,q7,q8,q9,q10,q11⟩:=OLD.out _ hb;have B1:=Lib.hid hb;clear hb)
    | (go_at_call 55;refine (IP.out _).mono ?_;rintro e w2 ⟨rfl,hb⟩;clear q0 q1 q2 q3 q4 q5 q6 q7 q8 q9 q10 q11;have B2:=Lib.hid (btr2 B1.out hb);clear hb;obtain ⟨q0,q1,q2,q3,q4,q5,q6,q7,q8,q9,q10,q11⟩:=OLD.out _ B2.out))
   go_returns
   exact ⟨rfl,HBB.out ▸ btr2 XB.out B2.out⟩
end
def SetS.pl (s : SetS) : SetP:=⟨s.cl,s.loc,s.peer,s.ss.map (·.2),s.g0,s.g1,s.cr,s.wn,s.tot,s.dd,s.srv⟩
def cl1 (s : SetP) : SetP:={ s with wn:=s.wn.upd,dd:=s.dd || s.wn.up }
def cl2 (s : SetP) (b : Bat) : SetP × Bat:=({ s with dd:=pendD s.dd b (fMaxData s.wn.most) },pendB s.dd b (fMaxData s.wn.most))
def cl3 (s : SetP) (b : Bat) : SetP × Bat:=({ s with g0:={ s.g0 with md:=pendD s.g0.md b (fMaxStr false (s.g0.gr + s.g0.fg)) } },pendB s.g0.md b (fMaxStr false (s.g0.gr + s.g0.fg)))
def cl4 (s : SetP) (b : Bat) : SetP × Bat:=({ s with g1:={ s.g1 with md:=pendD s.g1.md b (fMaxStr true (s.g1.gr + s.g1.fg)) } },pendB s.g1.md b (fMaxStr true (s.g1.gr + s.g1.fg)))
def clP (s : SetP) (b : Bat) : SetP × Bat × Bool:=
 let a:=cl2 (cl1 s) b
 if a.1.dd then (a.1,a.2,false) else
 let c:=cl3 a.1 a.2
 if c.1.g0.md then (c.1,c.2,false) else
 let d:=cl4 c.1 c.2
 (d.1,d.2,!d.1.g1.md)
def ctlO (id : Int) (o : OutP) (b : Bat) : OutP × Bat:=({ o with rd:=pendD o.rd b (fReset id o.rw o.X.sent) },pendB o.rd b (fReset id o.rw o.X.sent))
def ctlI1 (id : Int) (i : InP) (b : Bat) : InP × Bat:=({ i with sd:=pendD i.sd b (fStop id i.sw) },pendB i.sd b (fStop id i.sw))
def ctlI2 (i : InP) : InP:={ i with wn:=i.wn.upd,md:=i.md || i.wn.up }
def ctlI3 (id : Int) (i : InP) (b : Bat) : InP × Bat:=({ i with md:=pendD i.md b (fMaxSD id i.wn.most) },pendB i.md b (fMaxSD id i.wn.most))
def ctlI (id : Int) (i : InP) (b : Bat) : InP × Bat × Bool:=
 let a:=ctlI1 id i b
 if a.1.sd then (a.1,a.2,false) else
 if !(decide (a.1.recv = 0)) || a.1.stp then (a.1,a.2,true) else
 let c:=ctlI3 id (ctlI2 a.1) a.2
 (c.1,c.2,!c.1.md)
def ctlIx (x : Strm) (b : Bat) : Strm × Bat × Bool:=match x.inp with
 | none=>(x,b,true)
 | some i=>({ x with inp:=some (ctlI x.id i b).1 },(ctlI x.id i b).2.1,(ctlI x.id i b).2.2)
def ctlX (x : Strm) (b : Bat) : Strm × Bat × Bool:=match x.out with
 | none=>ctlIx x b
 | some o=>let a:=ctlO x.id o b
  if a.1.rd then ({ x with out:=some a.1 },a.2,false) else ctlIx { x with out:=some a.1 } a.2
def ctlL : List Strm → Bat → List Strm × Bat × Bool
 | [],b=>([],b,true)
 | x :: t,b=>if (ctlX x b).2.2 then ((ctlX x b).1 :: (ctlL t (ctlX x b).2.1).1,(ctlL t (ctlX x b).2.1).2.1,(ctlL t (ctlX x b).2.1).2.2) else ((ctlX x b).1 :: t,(ctlX x b).2.1,false)
def bl0 (s : SetP) (b : Bat) : SetP × Bat:=if s.g0.bl then ({ s with g0:={ s.g0 with bl:=false } },b.add (fSBl false s.g0.olim)) else (s,b)
def bl1 (s : SetP) (b : Bat) : SetP × Bat:=if s.g1.bl then ({ s with g1:={ s.g1 with bl:=false } },b.add (fSBl true s.g1.olim)) else (s,b)
def bl2 (s : SetP) (b : Bat) : SetP × Bat:=if s.ss.any (fun x=>outWait x.out) then ({ s with cr:=s.cr.bl },if s.cr.isBl then b.add (fDBl s.cr.most) else b) else (s,b)
def blX (x : Strm) (b : Bat) : Strm × Bat:=match x.out with
 | none=>(x,b)
 | some o=>if o.wait then ({ x with out:=some { o with cr:=o.cr.bl } },if o.cr.isBl then b.add (fSDBl x.id o.cr.most) else b) else (x,b)
def blL : List Strm → Bat → List Strm × Bat
 | [],b=>([],b)
 | x :: t,b=>((blX x b).1 :: (blL t (blX x b).2).1,(blL t (blX x b).2).2)
def blP (s : SetP) (b : Bat) : SetP × Bat:=
 let a:=bl0 s b
 let c:=bl1 a.1 a.2
 let d:=bl2 c.1 c.2
 ({ d.1 with ss:=(blL d.1.ss d.2).1 },(blL d.1.ss d.2).2)
def srvMost (b : Bat) : Int:=min (b.lf - 20) 1024
def srvCred (c : Snd) (o : OutP) : Int:=min c.av o.cr.av
def srvP (c : Snd) (o : OutP) (b : Bat) : Option (Nat × Nat):=o.X.nextP (srvMost b) (srvCred c o)
def srvN (o : OutP) (p : Nat × Nat) : Int:=((o.X.frame p.1 p.2).sent : Int) - o.X.sent
def srvF (id : Int) (o : OutP) (p : Nat × Nat) : Fr:={ o.X.frameR p.1 p.2 with str:=id }
def srvO (o : OutP) (p : Nat × Nat) : OutP:=({ o with X:=o.X.frame p.1 p.2,cr:={ o.cr with used:=o.cr.used + srvN o p } } : OutP).on (if (o.X.frameR p.1 p.2).fin then 2 else 1)
def updS (l : List Strm) (id : Nat) (x : Strm) : List Strm:=l.map fun y=>if y.id = id then x else y
def srvX (s : SetP) (x : Strm) (b : Bat) : SetP × Bat × Bool:=match x.out with
 | none=>(s,b,false)
 | some o=>if o.act && decide (32 ≤ b.lf) then
   match srvP s.cr o b with
   | none=>(s,b,false)
   | some p=>({ s with ss:=updS s.ss x.id { x with out:=some (srvO o p) },cr:={ s.cr with used:=s.cr.used + srvN o p },srv:=x.id },b.add (srvF x.id o p),b.fits (srvF x.id o p))
  else (s,b,false)
def findS (s : SetP) (id : Nat) : Option Strm:=s.ss.find? (fun x=>x.id == id)
def srv (s : SetP) (id : Nat) (b : Bat) : SetP × Bat × Bool:=match findS s id with | none=>(s,b,false) | some x=>srvX s x b
inductive Srv : List Nat → Nat → SetP → Bat → SetP → Bat → Prop
 | stop (l : List Nat) (i : Nat) (s : SetP) (b : Bat) (h : l.length ≤ i) : Srv l i s b s b
 | go (x : Nat) (t : List Nat) (i : Nat) (s : SetP) (b : Bat) (s' : SetP) (b' : Bat) (h : i < t.length + 1) (n : Srv (t ++ [x]) (if (srv s x b).2.2 then 0 else i + 1) (srv s x b).1 (srv s x b).2.1 s' b') : Srv (x :: t) i s b s' b'
theorem Srv.det {l : List Nat} {i : Nat} {s : SetP} {b : Bat} {s1 s2 : SetP} {b1 b2 : Bat} (h : Srv l i s b s1 b1) : Srv l i s b s2 b2 → s1 = s2 ∧ b1 = b2:=by
 induction h with
 | stop l i s b h=>
  intro k
  cases k with
  | stop _ _ _ _ _=>exact ⟨rfl,rfl⟩
  | go x t _ _ _ _ _ h2 _=>simp at h;omega
 | go x t i s b s' b' h n ih=>
  intro k
  cases k with
  | stop _ _ _ _ h2=>simp at h2;omega
  | go _ _ _ _ _ _ _ _ n2=>exact ih n2
def cycF (l : List Nat) (srv : Int) : List Nat:=l.dropWhile (fun (i : Nat)=>decide ((i : Int) ≤ srv)) ++ l.takeWhile (fun (i : Nat)=>decide ((i : Int) ≤ srv))
def FramesP (s : SetP) (most : Int) (s' : SetP) (fs : List Fr) : Prop:=
 if (clP s ⟨[],most⟩).2.2 then
  if (ctlL (clP s ⟨[],most⟩).1.ss (clP s ⟨[],most⟩).2.1).2.2 then
   ∃ r : SetP × Bat,r = blP { (clP s ⟨[],most⟩).1 with ss:=(ctlL (clP s ⟨[],most⟩).1.ss (clP s ⟨[],most⟩).2.1).1 } (ctlL (clP s ⟨[],most⟩).1.ss (clP s ⟨[],most⟩).2.1).2.1 ∧
    ∃ b',Srv (cycF (r.1.ss.map (·.id)) r.1.srv) 0 r.1 r.2 s' b' ∧ fs = b'.fs
  else s' = { (clP s ⟨[],most⟩).1 with ss:=(ctlL (clP s ⟨[],most⟩).1.ss (clP s ⟨[],most⟩).2.1).1 } ∧ fs = (ctlL (clP s ⟨[],most⟩).1.ss (clP s ⟨[],most⟩).2.1).2.1.fs
 else s' = (clP s ⟨[],most⟩).1 ∧ fs = (clP s ⟨[],most⟩).2.1.fs
section
open Go.RowKit Go.Maps Go.Sort Go.Shelf
attribute [local go_sem] Oper.semAt_some
def encE (p : Ent) : Array Value:=#[eP p]
structure KpS (n₀ B sb M : Nat) (W W' : World) : Prop where
 sz : W.heap.size ≤ W'.heap.size
 bx : W'.heap[B]? = W.heap[B]?
 mp : W'.cell? ⟨sb,13,none⟩ = W.cell? ⟨sb,13,none⟩
 mo : W'.heap[M]? = W.heap[M]?
 ints : ∀ (k : Nat) (cs : Array Value) (fz : Nat × Nat),n₀ ≤ k → W.heap[k]? = some (.cells cs 3 fz) → W'.heap[k]? = some (.cells cs 3 fz)
theorem KpS.refl (n₀ B sb M : Nat) (W : World) : KpS n₀ B sb M W W:=⟨Nat.le_refl _,rfl,rfl,rfl,fun _ _ _ _ h=>h⟩
theorem KpS.trans {n₀ B sb M : Nat} {a b c : World} (h : KpS n₀ B sb M a b) (k : KpS n₀ B sb M b c) : KpS n₀ B sb M a c:=
 ⟨Nat.le_trans h.sz k.sz,k.bx.trans h.bx,k.mp.trans h.mp,k.mo.trans h.mo,fun i cs fz hi hh=>k.ints i cs fz hi (h.ints i cs fz hi hh)⟩
theorem KpS.below {n₀ B sb M : Nat} {W W' : World} (h : Below W.heap.size W W') (hB : B < W.heap.size) (hs : sb < W.heap.size) (hM : M < W.heap.size) : KpS n₀ B sb M W W':=
 ⟨h.size,h.block B hB,h.cell (p:=⟨sb,13,none⟩) hs,h.block M hM,fun k _ _ _ hh=>heap_below h hh⟩
theorem KpS.chg {n₀ B sb M : Nat} {W W' : World} {f : Nat → Prop} (h : Chg f W W') (hB : B < W.heap.size) (hM : M < W.heap.size) (hf : ∀ k,f k → k < n₀ ∧ k ≠ B ∧ k ≠ M) (hc : W'.cell? ⟨sb,13,none⟩ = W.cell? ⟨sb,13,none⟩) : KpS n₀ B sb M W W':=
 ⟨h.size,h.block B hB (fun e=>(hf B e).2.1 rfl),hc,h.block M hM (fun e=>(hf M e).2.2 rfl),fun k cs fz hk hh=>h.heap hh (fun e=>Nat.not_le.2 (hf k e).1 hk)⟩
theorem sortsL (m : Nat) : AnyZI.SortsIn Tryz.prog Tryz.sortedL_ren Fence.wide m:=
 ⟨fun blk off cap ss W hH hblk hsz=>callsIn_wide.2 (Tryz.slices_Sort_int blk off cap ss W hH hblk hsz),
 fun p cap W=>callsIn_wide.2 (Tryz.slices_Sort_int_none p cap W)⟩
theorem all_in (n : Nat) (hn : 6 ≤ n) (ly B sb M nn n₀ : Nat) (l : List Ent) (nx : Nat) (hu : UpE nx l) (hnx : nx ≤ 4611686018427387904) (hll : l.length ≤ 1000000) (J Jx : List Ent → World → Prop) {m : Nat} (hJA : AbidesFrom m J)
  (hY : ∀ pre x W,x ∈ l → J pre W → pre.length < l.length → YieldAt Fence.wide (n - 1) Tryz.prog ly (encE x) W fun e W'=>
   (e = .returned (.bool true) ∧ J (pre ++ [x]) W' ∧ KpS n₀ B sb M W W') ∨ (e = .returned (.bool false) ∧ Jx (pre ++ [x]) W'))
  (W : World) (hWn : n₀ ≤ W.heap.size) (hBl : B < n₀) (hbl : sb < n₀) (hMl : M < n₀)
  (hB : W.cell? ⟨B,0,none⟩ = some (.pointer (some ⟨sb,0,none⟩))) (hb : W.cell? ⟨sb,13,none⟩ = some (.map (some M))) (hM : MapE W M nn l) (h0 : J [] W) :
  CallsIn Fence.wide n Tryz.prog 126 #[.func (.yield ly) #[] #[],.pointer (some ⟨B,0,none⟩)] W fun e W'=>(∃ v,e = .returned v) ∧
   ((∃ ys,ys = l ∧ J ys W') ∨ (∃ pre,pre <+: l ∧ Jx pre W')):=by
 obtain ⟨D,hD,hH⟩:=hM
 have HD:=Lib.hid (And.intro hD hH)
 have hsz : Maps.size D = l.length:=by
  obtain ⟨es,rfl,ht⟩:=hH.tidy
  have:=(keysE_sorted hH hu (mapAt_keys hD) (List.Perm.refl _)).2
  simpa [Maps.size,intKeys] using this
 have hseq : SeqGives Fence.wide (n - 1 - 1 - 1 - 1) Tryz.prog 204 #[.pointer (some ⟨W.heap.size,0,none⟩)] encZ (fun ss=>ss.Perm (intKeys D)) (Maps.size D) (W.alloc (.cells #[.map (some M)] 109)):=
  AnyZI.keys_gives (ρ:=Tryz.keysL_ren) { Tryz.keysL with } Fence.wide _ trivial rfl (by omega) W.heap.size M nn D _ (by simp) (by simp) (World.ownsMap.alloc hD _)
 have cK : ∀ mb W,CallsIn Fence.wide (n - 1) Tryz.prog 128 #[.map mb] W fun e w'=>e = .returned (.func (.func 204) #[] #[.pointer (some ⟨W.heap.size,0,none⟩)]) ∧ w' = W.alloc (.cells #[.map mb] 109):=fun mb W=>AnyZI.keys_in Tryz.keysL Fence.wide (n - 1) trivial rfl mb W
 have cS:=AnyZI.sorted_in Tryz.sortedL Fence.wide (n - 1) trivial trivial trivial trivial rfl (by omega) (sortsL _) (enters_of Tryz.func203 (by kernel_rfl) rfl) 204 #[.pointer (some ⟨W.heap.size,0,none⟩)] trivial (enters_of Tryz.func204 (by kernel_rfl) rfl) _ _ (by rw [hsz];unfold maxLen;omega) (by rw [hsz];omega) _ hseq
 change CallsIn _ _ Tryz.prog 127 _ _ _ at cS
 have CS:=Lib.hid cS
 have CK:=Lib.hid cK
 have HS:=Lib.hid hsz
 clear cS cK hseq hsz hD hH
 have hfK : Fence.wide.fn 128:=trivial
 have hfS : Fence.wide.fn 127:=trivial
 have h1n : 1 ≤ n:=by omega
 refine callsIn_of_wp Tryz.func126 rfl trivial ?_ rfl
 simp only [Tryz.ntmps126,List.size_toArray,List.length_cons,List.length_nil,Nat.reduceAdd,Nat.reduceSub,Array.replicate_succ,Array.replicate_zero,List.push_toArray,List.append_toArray,List.nil_append,List.cons_append]
 gi_wp2_with (gi_at_call 128;refine (CK.out _ _).mono ?_;rintro e w' ⟨rfl,rfl⟩)
 refine CS.out.mono ?_
 rintro e w1 ⟨v,ss,rfl,hS,hrow,hnil,hb1⟩
 clear hfK hfS hnil
 have hq:=keysE_sorted HD.out.2 hu (mapAt_keys HD.out.1) hS
 rw [hq.1,hq.2] at hrow
 have hb2 : Below W.heap.size W w1:=btrans ((Below.refl W.heap.size W).alloc (Nat.le_refl _) _) hb1
 have HBW:=Lib.hid hb2
 have J1:=Lib.hid (hJA [] W w1 none h0 (grown_below (r:=none) hb2) (fun r e=>by cases e))
 clear hq hS hb1 hb2 h0 CS CK
 rcases hrow.2 with ⟨rfl,hz⟩ | ⟨g,cap,cur,rfl,hbase,hg,r1,r2,r3,r4⟩
 ·have hl0 : l = []:=List.eq_nil_of_length_eq_zero hz
  subst hl0
  clear hrow
  gi_wp2
  refine wpIn_loop_rounds 1 ?_
  rw [roundsIn_succ]
  gi_wp2
  go_end0
  exact ⟨⟨_,rfl⟩,.inl ⟨[],rfl,J1.out⟩⟩
 ·have hcl:=Lib.hid (fun (k : Nat) (hk : k < l.length)=>(show w1.cell? ⟨g,k,none⟩ = some (.int .i64 ((l[k]'hk).1 : Int)) from by
   have:=hrow.cells (g:=g) rfl k (.int .i64 ((l[k]'hk).1 : Int)) (by simp [encZ,hk])
   rwa [add_plain,Nat.zero_add] at this))
  have HG:=Lib.hid hg
  have hgn : Hid (n₀ ≤ g):=Lib.hid (by have:=hbase;rw [World.size_alloc] at this;omega)
  have R1:=r1
  clear hrow hg r3 r4 hbase
  have hb0 : KpS n₀ B sb M W w1:=KpS.below HBW.out (by omega) (by omega) (by omega)
  unfold maxLen at r2
  gi_wp2
  gi_loopw [12] (fun i wr=>∃ k : Nat,k ≤ l.length ∧ i = .int .i64 k ∧ J (l.take k) wr ∧ KpS n₀ B sb M W wr ∧ KpS n₀ B sb M w1 wr) (fun i _=>l.length - (intOf i).toNat)
  case atStart=>exact ⟨0,by omega,rfl,J1.out,hb0,KpS.refl _ _ _ _ _⟩
  case round=>
   obtain ⟨k,hk,rfl,hJ,hbk,hik⟩:=hrel
   have HI:=Lib.hid (And.intro hbk hik)
   have cB : wr.cell? ⟨B,0,none⟩ = some (.pointer (some ⟨sb,0,none⟩)):=(World.cell?_of_block (a:=⟨B,0,none⟩) hbk.bx).trans hB
   have cb : wr.cell? ⟨sb,13,none⟩ = some (.map (some M)):=hbk.mp.trans hb
   have hMk : MapE wr M nn l:=MapE.of_block ⟨D,HD.out.1,HD.out.2⟩ hbk.mo
   clear hbk hik
   by_cases hlt : k < l.length
   ·have hgw : wr.heap[g]? = some (.cells cur 3 (0,0)):=HI.out.2.ints _ _ _ hgn.out HG.out
    have ck : wr.cell? ⟨g,k,none⟩ = some (.int .i64 ((l[k]'hlt).1 : Int)):=(World.cell?_of_block (a:=⟨g,k,none⟩) (hgw.trans HG.out.symm)).trans (hcl.out k hlt)
    have hpm : l[k]'hlt ∈ l:=List.getElem_mem hlt
    have hpb:=hu.bnd _ hpm
    have hlook:=hMk.look hpm (idWf (by omega))
    have hts:=Lib.hid (List.take_succ_eq_append_getElem hlt)
    obtain ⟨fn,tmps,assign,body,hy,hR⟩:=hY _ (l[k]'hlt) wr hpm hJ (by rw [List.length_take];omega)
    have HR:=Lib.hid hR
    clear hR hMk hgw hpm hJ
    simp only [encE,eP] at hy hlook
    gi_wp2
    refine HR.out.mono ?_
    rintro e W3 (⟨rfl,hJ3,hk3⟩ | ⟨rfl,hJx3⟩)
    ·have K3:=Lib.hid hk3
     clear hk3 hpb hlook hy ck cB cb
     gi_wp2
     go_roundw
     case rel=>exact ⟨k + 1,by omega,by go_num,by rw [hts.out];exact hJ3,HI.out.1.trans K3.out,HI.out.2.trans K3.out⟩
     case measure=>simp [intOf];omega
    ·clear hpb hlook hy ck cB cb
     gi_wp2
     refine bodyPost_ret (results_none rfl _ _ _) rfl ?_
     exact ⟨⟨_,rfl⟩,.inr ⟨_,by rw [← hts.out];exact List.take_prefix _ _,hJx3⟩⟩
   ·obtain rfl : k = l.length:=by omega
    rw [List.take_length] at hJ
    clear hlt
    gi_wp2
    go_end0
    exact ⟨⟨_,rfl⟩,.inl ⟨l,rfl,hJ⟩⟩
abbrev InE (l : List Ent):={ p : Ent // p ∈ l }
theorem all_stops (n : Nat) (hn : 6 ≤ n) (B sb M nn n₀ : Nat) (l : List Ent) (nx : Nat) (hu : UpE nx l) (hnx : nx ≤ 4611686018427387904) (hll : l.length ≤ 1000000) (W : World) (hn0 : n₀ ≤ W.heap.size) (hBl : B < n₀) (hbl : sb < n₀) (hMl : M < n₀)
  (hB : W.cell? ⟨B,0,none⟩ = some (.pointer (some ⟨sb,0,none⟩))) (hb : W.cell? ⟨sb,13,none⟩ = some (.map (some M))) (hM : MapE W M nn l) :
  SeqStopsK Fence.wide n Tryz.prog 126 #[.pointer (some ⟨B,0,none⟩)] (fun x : InE l=>encE x.1) (KpS n₀ B sb M) (fun ys=>ys.map (·.1) = l) (fun _=>True) l.length W:=fun ly J Jx W2 hW hA _ hY h0=>by
 have hs2:=hW.size
 refine (all_in n hn ly B sb M nn n₀ l nx hu hnx hll (fun pre W=>∃ pre' : List (InE l),pre'.map (·.1) = pre ∧ J pre' W) (fun pre W=>∃ pre' : List (InE l),pre'.map (·.1) = pre ∧ Jx pre' W) (m:=W2.heap.size)
  (fun s A C row hs hg hr=>by obtain ⟨p',e,hj⟩:=hs;exact ⟨p',e,hA p' A C row hj hg hr⟩) ?_ W2 (Nat.le_trans hn0 hW.size) hBl hbl hMl ((hW.cell (p:=⟨B,0,none⟩) (Nat.lt_of_lt_of_le hBl hn0)).trans hB) ((hW.cell (p:=⟨sb,13,none⟩) (Nat.lt_of_lt_of_le hbl hn0)).trans hb)
  (hM.of_block (hW.block M (Nat.lt_of_lt_of_le hMl hn0))) ⟨[],rfl,h0⟩).mono ?_
 ·rintro pre x W hx ⟨pre',rfl,hj⟩ hlen
  refine (hY pre' ⟨x,hx⟩ W hj (by simpa using hlen)).mono ?_
  rintro e W' (⟨h1,h2,h3⟩ | ⟨h1,h2⟩)
  ·exact .inl ⟨h1,⟨pre' ++ [⟨x,hx⟩],by simp,h2⟩,h3⟩
  ·exact .inr ⟨h1,pre' ++ [⟨x,hx⟩],by simp,h2⟩
 ·rintro e W' ⟨h1,h2⟩
  refine ⟨h1,?_⟩
  rcases h2 with ⟨ys,rfl,ys',e,hj⟩ | ⟨pre,_,pre',_,hj⟩
  ·exact .inl ⟨ys',e,hj⟩
  ·exact .inr ⟨pre',trivial,hj⟩
end
section
open Go.RowKit
section
variable {W w w' w2 : World} {H H' : Nat → Option Obj} {a : SetA} {s s' : SetS} {bb : Nat} {v v' : Value} {b b' : Bat} {f f' : Nat → Prop}
def isK (o : Option Obj) : Prop:=∃ cs T,o = some (.cells cs T (0,0)) ∧ T ≠ 3
theorem isK.mk {o : Option Obj} {cs : Array Value} {T : TypeId} (h : o = some (.cells cs T (0,0))) (hT : T ≠ 3) : isK o:=⟨cs,T,h,hT⟩
theorem RowH.isK {e : TypeId} {size n : Nat} {xs : List Value} (h : RowH H e size v n xs) (he : e ≠ 3) {k : Nat} (hk : v.ownBlock = some k) : isK (H k):=by
 obtain ⟨c,hc⟩:=h.block hk;exact .mk hc he
theorem OutIn.isK {x : OutA} {o : OutP} (h : OutIn H x o) {k : Nat} (hk : x.foot k) : isK (H k):=by
 rcases hk with rfl | hk | rfl | hk
 ·exact .mk h.ob (by decide)
 ·obtain ⟨_,vd,vs,h1,h2,h3,h4⟩:=h.bf
  rcases (h4 k).1 hk with rfl | e | e
  ·exact .mk h1 (by decide)
  ·exact h2.isK (by decide) e
  ·exact h3.isK (by decide) e
 ·exact .mk h.cb (by decide)
 ·exact h.ak.isK (by decide) hk
theorem InIn.isK {x : InA} {i : InP} (h : InIn H x i) {k : Nat} (hk : x.foot k) : isK (H k):=by
 rcases hk with rfl | rfl | rfl | rfl | rfl
 ·exact .mk h.ib (by decide)
 ·exact .mk h.rb (by decide)
 ·exact .mk h.h1 (by decide)
 ·exact .mk h.h2 (by decide)
 ·exact .mk h.wb (by decide)
theorem StIn.isK {xa : StA} {x : Strm} (h : StIn H xa x) {k : Nat} (hk : xa.foot k) : isK (H k):=by
 rcases hk with rfl | hk | hk
 ·exact .mk h.xb (by decide)
 ·have h0:=h.o
  cases ha : xa.o with
  | none=>rw [ha] at hk;exact hk.elim
  | some oa=>cases hb : x.out with
   | none=>rw [ha,hb] at h0;exact h0.elim
   | some o=>rw [ha] at hk;rw [ha,hb] at h0;exact OutIn.isK h0 hk
 ·have h0:=h.i
  cases ha : xa.i with
  | none=>rw [ha] at hk;exact hk.elim
  | some oa=>cases hb : x.inp with
   | none=>rw [ha,hb] at h0;exact h0.elim
   | some o=>rw [ha] at hk;rw [ha,hb] at h0;exact InIn.isK h0 hk
theorem SetIn.isK (h : SetIn H a s) {k : Nat} (hk : s.foot a k) (hM : k ≠ a.M) : isK (H k):=by
 rcases hk with (rfl | rfl | rfl | rfl) | ⟨e,he,hk⟩
 ·exact .mk h.sb (by decide)
 ·exact absurd rfl hM
 ·exact .mk h.cb (by decide)
 ·exact .mk h.wb (by decide)
 ·exact (h.li.all e he).isK hk
theorem BatIn.isK (h : BatIn H bb v b) {k : Nat} (hk : batF bb v k) : isK (H k):=by
 rcases hk with rfl | hk
 ·exact .mk h.bb (by decide)
 ·exact h.row.isK (by decide) hk
theorem SB.isK (h : SB H a s bb v b) {k : Nat} (hk : sbF s a bb v k) (hM : k ≠ a.M) : isK (H k):=by
 rcases hk with hk | hk
 ·exact h.st.isK hk hM
 ·exact h.bt.isK hk
def bdF (s : SetS) (a : SetA) (bb : Nat) (v : Value) (k : Nat) : Prop:=sbF s a bb v k ∧ k ≠ a.M
theorem SB.keep (h : SB H a s bb v b) (hs : ∀ k o,sbF s a bb v k → H k = some o → H' k = some o) : SB H' a s bb v b:=
 ⟨h.st.keep (fun k o hk e=>hs k o (.inl hk) e),h.bt.keep (fun k o hk e=>hs k o (.inr hk) e),h.dj⟩
def SBw (W w : World) (a : SetA) (s : SetS) (bb : Nat) (v : Value) (b : Bat) : Prop:=∃ H,Mem W w H ∧ SB H a s bb v b
theorem SBw.mk (hm : Mem W w H) (h : SB H a s bb v b) : SBw W w a s bb v b:=⟨H,hm,h⟩
theorem SBw.M_lt (h : SBw W w a s bb v b) : a.M < w.heap.size:=by
 obtain ⟨H,hm,h⟩:=h
 obtain ⟨mo,m1,_⟩:=h.st.mp
 exact hm.lt m1
theorem SBw.keeps {B : Nat} (h : SBw W w a s bb v b) (hc : Chg (bdF s a bb v) w w') : KeepsFrom B w w':=by
 obtain ⟨H,hm,h⟩:=h
 refine ⟨hc.size,fun k o _ hk ho=>?_⟩
 refine (hc.block k (heap_lt hk) (fun c=>?_)).trans hk
 obtain ⟨cs,T,e,_⟩:=h.isK c.1 c.2
 have:=(hm.far k _ e).1
 rw [hk] at this;cases this
 cases ho
theorem SBw.kp {n₀ B : Nat} {cs : Array Value} {TB : TypeId} (h : SBw W w a s bb v b) (h' : SBw W w' a s' bb v' b') (hc : Chg (bdF s a bb v) w w') (hB : w.heap[B]? = some (.cells cs TB (0,0))) (hBf : ¬ sbF s a bb v B) : KpS n₀ B a.sb a.M w w':=by
 have hM:=h.M_lt
 obtain ⟨H,hm,h⟩:=h
 obtain ⟨H',hm',h'⟩:=h'
 refine ⟨hc.size,hc.block B (heap_lt hB) (fun c=>hBf c.1),?_,hc.block _ hM (fun c=>c.2 rfl),fun k cs fz hk hh=>?_⟩
 ·rw [h.st.c13 hm,h'.st.c13 hm']
 ·refine (hc.block k (heap_lt hh) (fun c=>?_)).trans hh
  obtain ⟨ds,T,e,hT⟩:=h.isK c.1 c.2
  have:=(hm.far k _ e).1
  rw [hh] at this
  simp at this
  exact hT this.2.1.symm
end
end
section
open Go.RowKit
open frm (FrV)
theorem facts38 : ∃ i,Tryz.prog.info? 38 = some i ∧ i.zero = some fr0.val ∧ i.size = 13 ∧ i.bytes ≤ 1000:=⟨_,rfl,rfl,rfl,by decide⟩
theorem run_append_frH {W w : World} {H : Nat → Option Obj} {v : Value} {l : List Fr} (hm : Mem W w H) (hr : RowH H 38 13 v l.length (frs l)) (ty : TypeId) (f : Fr) (h1 : f.cells.all (·.oneCell') = true) (g : Nat) (hg : w.heap[g]? = some (.cells f.cells 38 (0,0))) (hl : l.length ≤ 100000) :
  ∃ v' w',(Builtin.append_ #[34,34] ty #[v,.slice (some ⟨g,0,none⟩) 1 1]).run Tryz.prog w = .ok v' w' ∧ Chg (fun k=>v.ownBlock = some k) w w' ∧ ∃ H',To W w' H H' (fun k=>v.ownBlock = some k) (fun k=>v'.ownBlock = some k) ∧ RowH H' 38 13 v' (l ++ [f]).length (frs (l ++ [f])) ∧ ∀ k,v'.ownBlock = some k → v.ownBlock = some k ∨ w.heap.size ≤ k:=by
 obtain ⟨i,e1,e2,e3,e4⟩:=facts38
 have hsrc : Src Tryz.prog 13 34 (.slice (some ⟨g,0,none⟩) 1 1) 1 f.cells.toList w:=Src.ofSlice w Tryz.underlying34 _ 1 1 _ rfl (fun j u hu=>by rw [add_plain,Nat.zero_add,cell_whole hg];simpa using hu) (fun u hu=>(Array.all_eq_true_iff_forall_mem.1 h1) u (by simpa using hu))
 obtain ⟨v',w',hrun,h2,h3,h4⟩:=run_append_src (P:=Tryz.prog) w W.heap.size 34 34 ty 38 i fr0.val 13 i.bytes Tryz.underlying34 e1 e2 e3 rfl rfl (by decide) v l.length (frs l) (hr.own hm) _ 1 f.cells.toList hsrc (by unfold maxLen;omega) (by have:=Nat.mul_le_mul (show l.length + 1 ≤ 100001 by omega) e4;omega) hm.below.size
 have hc : Chg (fun k=>v.ownBlock = some k) w w':=Chg.grownO h3 (fun k e=>e)
 refine ⟨v',w',hrun,hc,_,To.ovr hm hc (fun k hk=>?_) (fun k hk=>h4 k hk),RowH.of (base:=W.heap.size) (by rw [List.length_append,frs_add];exact h2) (fun k hk=>ovr_in hk),h4⟩
 obtain ⟨c,hc⟩:=hr.block hk
 exact (hm.far k _ hc).2
theorem step_of_wp {P : Program} {ops : Array Oper} {o : Oper} {a : Act} {w : World} {K : Act → World → Prop} {Q : Exit → Act → World → Prop} {E : Prop} (hgd : o.guard = none) (h : Oper.wp P o a w K Q) : if Region.wanted o (yielded ops a.tmps) = true then Oper.wp P o a w K Q else E:=by
 have hw : Region.wanted o (yielded ops a.tmps) = true:=by simp [Region.wanted,hgd]
 rw [if_pos hw];exact h
theorem wp_append_frH {o : Oper} {a : Act} {w : World} {K : Act → World → Prop} {Q : Exit → Act → World → Prop} (s x : Operand)
  (ho : o.op = .call { callee:=.builtin .append,args:=#[s,x],argTypes:=#[34,34] }) {W : World} {H : Nat → Option Obj} {v : Value} {l : List Fr} (hm : Mem W w H) (hr : RowH H 38 13 v l.length (frs l)) (hs : a.eval s = v)
  (f : Fr) (h1 : f.cells.all (·.oneCell') = true) (g : Nat) (hx : a.eval x = .slice (some ⟨g,0,none⟩) 1 1) (hg : w.heap[g]? = some (.cells f.cells 38 (0,0))) (hl : l.length ≤ 100000)
  (hK : ∀ v' w' H',(∃ ao n c,v' = .slice ao n c) → Chg (fun k=>v.ownBlock = some k) w w' → To W w' H H' (fun k=>v.ownBlock = some k) (fun k=>v'.ownBlock = some k) → RowH H' 38 13 v' (l ++ [f]).length (frs (l ++ [f])) → (∀ k,v'.ownBlock = some k → v.ownBlock = some k ∨ w.heap.size ≤ k) → K (a.put o.dst v') w') : Oper.wp Tryz.prog o a w K Q:=by
 obtain ⟨v',w',hrun,hc,H',hT,hR,hF⟩:=run_append_frH hm hr o.type f h1 g hg hl
 unfold Oper.wp execOp
 simp only [ho,resolve,invoke,builtin,Sem.run_bind,Sem.run_pure,Result.andThen_ok,List.map_toArray,List.map_cons,List.map_nil,hs,hx,hrun]
 refine hK v' w' H' ?_ hc hT hR hF
 rcases hR.2 with ⟨e,_⟩ | ⟨g,c,_,e,_⟩
 iterate 2 (· exact ⟨_,_,_,e⟩)
structure BatTo (W w w' : World) (H H' : Nat → Option Obj) (bb : Nat) (v v' : Value) (b' : Bat) : Prop where
 tt : To W w' H H' (batF bb v) (batF bb v')
 bt : BatIn H' bb v' b'
 chg : Chg (batF bb v) w w'
 fr : ∀ k,batF bb v' k → batF bb v k ∨ w.heap.size ≤ k
section
variable {W w : World} {H : Nat → Option Obj} {bb : Nat} {v : Value} {b : Bat}
theorem Chg.after {F : Nat → Prop} {a b c : World} (h : Below a.heap.size a b) (k : Chg F b c) : Chg F a c:=(Chg.below h).trans1 k
theorem Chg.setW' {F : Nat → Prop} (w : World) (b i : Nat) (v : Value) (hF : F b) : Chg F w (w.setCell ⟨b,i,none⟩ v):=(Chg.refl F w).set b i v hF
theorem FrV.one {f : Fr} (hv : FrV f) : f.cells.all (·.oneCell') = true:=by
 unfold Fr.cells
 rw [hv.rg]
 simp [Value.oneCell']
theorem setCell_self {w : World} {b i : Nat} {v : Value} (h : w.cell? ⟨b,i,none⟩ = some v) : w.setCell ⟨b,i,none⟩ v = w:=by
 have hb : ∃ cs T fz,w.heap[b]? = some (.cells cs T fz) ∧ cs[i]? = some v:=by
  unfold World.cell? at h
  split at h
  ·rename_i c T fz e
   exact ⟨c,T,fz,e,by simpa using h⟩
  ·cases h
 obtain ⟨cs,T,fz,hh,hc⟩:=hb
 have hs : cs.setIfInBounds i v = cs:=by
  obtain ⟨hi,he⟩:=Array.getElem?_eq_some_iff.1 hc
  subst he
  exact Array.ext_getElem? (fun k=>by
   by_cases e : i = k
   ·subst e;simp [hi]
   ·simp [e])
 have e : (w.setCell ⟨b,i,none⟩ v).heap = w.heap:=by
  refine Array.ext_getElem? (fun k=>?_)
  by_cases e : k = b
  ·subst e
   have : (w.setCell ⟨k,i,none⟩ v).heap[k]? = some (.cells (cs.setIfInBounds i v) T fz):=by simp [World.setCell,Array.getElem?_modify,hh]
   rw [this,hs,hh]
  ·exact heap_setCell_other w _ k v (fun e2=>e e2)
 show World.setCell w _ v = w
 unfold World.setCell at e ⊢
 cases w
 simp only at e ⊢
 rw [e]
theorem add_end {w2 w3 w5 : World} {H2 H5 : Nat → Option Obj} {v' : Value} {fs fs' : List Fr} {l : Int} (C2 : Chg (batF bb v) w w2) (T2 : To W w2 H H2 (batF bb v) (batF bb v)) (B2 : BatIn H2 bb v ⟨fs,l⟩) (hb : Below w2.heap.size w2 w3)
  (hc : Chg (fun k=>v.ownBlock = some k) w3 w5) (hT : To W w5 H2 H5 (fun k=>v.ownBlock = some k) (fun k=>v'.ownBlock = some k)) (hR : RowH H5 38 13 v' fs'.length (frs fs')) (hF : ∀ k,v'.ownBlock = some k → v.ownBlock = some k ∨ w3.heap.size ≤ k) :
  ∃ H6,BatTo W w (w5.setCell ⟨bb,0,none⟩ v') H H6 bb v v' ⟨fs',l⟩:=by
 have h5 : H5 bb = some (.cells #[v,.int .i64 l] 134 (0,0)):=hT.kp _ _ B2.bb (fun e=>B2.ne e rfl)
 obtain ⟨H6,T6,e6⟩:=To.set hT.mem h5 0 v'
 have hne : ∀ k,v'.ownBlock = some k → k ≠ bb:=fun k hk e=>by
  obtain ⟨c,hc⟩:=hR.block hk
  rw [e,h5] at hc
  exact cne (by decide) (Option.some.inj hc)
 refine ⟨H6,(T2.trans (hT.wide (g:=batF bb v) (g':=batF bb v') (fun k c=>.inr c) (fun k c=>c.elim (fun c=>.inr (.inl (.inl c))) .inl))).trans (T6.wide (g:=batF bb v') (g':=batF bb v') (fun k c=>.inl c) (fun k c=>.inr (.inl c))),⟨by simpa using e6,hR.keep (fun k o hk ho=>T6.kp k o ho (hne k hk))⟩,
  C2.trans1 ((Chg.below hb).trans1 ((hc.mono (fun k c=>.inr c)).trans1 (Chg.setW' _ _ _ _ (.inl rfl)))),fun k hk=>?_⟩
 rcases hk with c | c
 ·exact .inl (.inl c)
 ·rcases hF k c with c | c
  ·exact .inl (.inr c)
  ·exact .inr (Nat.le_trans C2.size (Nat.le_trans hb.size c))
theorem add_any (hm : Mem W w H) (hb : BatIn H bb v b) (f : Fr) (hv : FrV f) (hl : -1152921504606846976 ≤ b.lf ∧ b.lf ≤ 1152921504606846976) (hn : b.fs.length ≤ 100000) :
  Calls Tryz.prog 130 #[ptr bb,f.val] w fun e w'=>e = .returned (.bool (b.fits f)) ∧ ∃ H' v',BatTo W w w' H H' bb v v' (b.add f):=by
 have hone:=FrV.one hv
 have hz:=szF_le hv
 have hz1:=szF_pos f
 have B0:=Lib.hid (show Below w.heap.size w (w.alloc (.cells f.cells 38)) from (Below.refl _ w).alloc (Nat.le_refl _) _)
 have X0:=Lib.hid (heap_alloc_new w (.cells f.cells 38))
 have EN:=Lib.hid (fun wx=>frm.Encode_any f wx hv)
 have HH:=Lib.hid (And.intro hm hb)
 obtain ⟨S,hS⟩ : ∃ S,frm.encS f = S:=⟨_,rfl⟩
 obtain ⟨z,hz0⟩ : ∃ z : Int,szF f = z:=⟨_,rfl⟩
 have hSz : (S.size : Int) = z:=by rw [← hS,← hz0];rfl
 have HF : Hid (b.fits f = decide (z ≤ b.lf)):=Lib.hid (by unfold Bat.fits;rw [hz0])
 have HA : Hid (b.add f = if decide (z ≤ b.lf) then ⟨b.fs ++ [f],b.lf - z⟩ else b):=Lib.hid (by unfold Bat.add Bat.fits;rw [hz0])
 have HV:=Lib.hid (And.intro hone hn)
 rw [hS] at EN
 rw [hz0] at hz hz1
 clear hm hb hv hone hn hS hz0
 have CB : Hid (∀ wx,Below w.heap.size w wx → wx.cell? ⟨bb,1,none⟩ = some (.int .i64 b.lf) ∧ wx.frozen? ⟨bb,1,none⟩ = false):=Lib.hid (fun wx hx=>by
  have h1:=heap_below hx (HH.out.1.at HH.out.2.bb)
  exact ⟨at_whole h1 1 rfl,frozen_whole h1 1⟩)
 have hvf : f.val = .agg f.cells:=rfl
 rw [hvf] at EN ⊢
 generalize hfc : f.cells = fc at B0 X0 EN ⊢
 have HFC:=Lib.hid hfc
 clear hfc hvf
 unfold ptr
 go_enter Tryz.func130,Tryz.ntmps130
 go_wp2_with (first | (refine wpList_load_row rfl 38 _ rfl w.heap.size rfl 38 _ (0,0) _ X0.out Tryz.underlying38 rfl (by rw [← HFC.out];exact size38 f) ?_) | (go_at_call 90;refine (EN.out _).mono ?_;rintro e w1 ⟨rfl,hb1⟩;have hbl:=btrans B0.out hb1;have cl:=(CB.out _ hbl).1;have zl:=(CB.out _ hbl).2;have B1:=Lib.hid hbl;have X1:=Lib.hid (heap_below hb1 X0.out);clear hb1 hbl))
 ·have hf : decide (z ≤ b.lf) = false:=decide_eq_false (by omega)
  go_returns
  exact ⟨by rw [HF.out,hf];rfl,H,v,To.refl (HH.out.1.same B1.out) _,by rw [HA.out,hf];exact HH.out.2,Chg.below B1.out,fun k hk=>.inl hk⟩
 ·have hf : decide (z ≤ b.lf) = true:=decide_eq_true (by omega)
  have hw : Hid (b.add f = ⟨b.fs ++ [f],b.lf - z⟩):=Lib.hid (by rw [HA.out,hf];rfl)
  have hf2 : Hid (b.fits f = true):=Lib.hid (by rw [HF.out,hf])
  have M1:=HH.out.1.same B1.out
  obtain ⟨H2,T2,e2⟩:=To.set M1 HH.out.2.bb 1 (.int .i64 (b.lf - z))
  have C2:=Lib.hid (show Chg (batF bb v) w (w1.setCell ⟨bb,1,none⟩ (.int .i64 (b.lf - z))) from (Chg.below B1.out).trans1 (Chg.setW' w1 bb 1 _ (.inl rfl)))
  have X2:=Lib.hid (show (w1.setCell ⟨bb,1,none⟩ (.int .i64 (b.lf - z))).heap[w.heap.size]? = some (.cells fc 38 (0,0)) from (heap_setCell_other w1 _ _ _ (fun e=>by have h1:=HH.out.1.lt HH.out.2.bb;simp at e;omega)).trans X1.out)
  have B2:=Lib.hid (show BatIn H2 bb v ⟨b.fs,b.lf - z⟩ from ⟨by simpa using e2,HH.out.2.row.keep (fun k o hk ho=>T2.kp k o ho (fun e=>HH.out.2.ne hk e))⟩)
  have TT2:=Lib.hid (T2.wide (g:=batF bb v) (g':=batF bb v) (fun k c=>.inl c) (fun k c=>c.elim (fun c=>.inl c) (fun c=>.inr (.inl (.inr c)))))
  clear e2 T2 cl zl hf M1
  generalize w1.setCell _ _ = w2 at C2 X2 TT2 ⊢
  have c0 : w2.cell? ⟨bb,0,none⟩ = some v:=at_whole (TT2.out.mem.at B2.out.bb) 0 rfl
  have hfv : f.cells = fc:=HFC.out
  subst hfv
  have MD:=Lib.hid TT2.out.mem.drew
  have MA:=Lib.hid (show Mem W (w2.drew.alloc (.cells f.cells 38)) H2 from MD.out.same (bz0.alloc (Nat.le_refl _) _))
  have c0a : (w2.alloc (.cells f.cells 38)).cell? ⟨bb,0,none⟩ = some v:=at_whole (MA.out.at B2.out.bb) 0 rfl
  have X2c:=Lib.hid (fun (i : Nat) (v : Value) (h : f.cells[i]? = some v)=>(show w2.cell? ⟨w.heap.size,i,none⟩ = some v from (cell_whole X2.out i).trans h))
  have y0 : w2.cell? ⟨w.heap.size,0,none⟩ = some (.int .i64 f.ty):=X2c.out 0 _ rfl
  have y1 : w2.cell? ⟨w.heap.size,1,none⟩ = some (.int .i64 f.str):=X2c.out 1 _ rfl
  have y2 : w2.cell? ⟨w.heap.size,2,none⟩ = some (.int .i64 f.off):=X2c.out 2 _ rfl
  have y3 : w2.cell? ⟨w.heap.size,3,none⟩ = some (.string f.s):=X2c.out 3 _ rfl
  have y4 : w2.cell? ⟨w.heap.size,4,none⟩ = some (.bool f.fin):=X2c.out 4 _ rfl
  have y5 : w2.cell? ⟨w.heap.size,5,none⟩ = some (.int .i64 f.max):=X2c.out 5 _ rfl
  have y6 : w2.cell? ⟨w.heap.size,6,none⟩ = some (.int .i64 f.code):=X2c.out 6 _ rfl
  have y7 : w2.cell? ⟨w.heap.size,7,none⟩ = some (.bool f.uni):=X2c.out 7 _ rfl
  have y8 : w2.cell? ⟨w.heap.size,8,none⟩ = some (.int .i64 f.delay):=X2c.out 8 _ rfl
  have y9 : w2.cell? ⟨w.heap.size,9,none⟩ = some (f.ranges):=X2c.out 9 _ rfl
  have y10 : w2.cell? ⟨w.heap.size,10,none⟩ = some (.int .i64 f.seq):=X2c.out 10 _ rfl
  have y11 : w2.cell? ⟨w.heap.size,11,none⟩ = some (.int .i64 f.retire):=X2c.out 11 _ rfl
  have y12 : w2.cell? ⟨w.heap.size,12,none⟩ = some (.string f.cid):=X2c.out 12 _ rfl
  unfold Fr.cells at c0a ⊢
  go_region_law ((refine step_of_wp rfl (wp_append_frH _ _ rfl MA.out B2.out.row rfl f HV.out.1 w2.heap.size rfl (by exact heap_alloc_new _ _) (by have:=HV.out.2;omega) ?_);intro v' w5 H5 hsl hc hT hR hF;obtain ⟨ao,nn,cc,rfl⟩:=hsl;have hbb:=hT.mem.at (hT.kp _ _ B2.out.bb (fun e=>B2.out.ne e rfl));have d0:=at_whole hbb 0 rfl;have z0:=frozen_whole hbb 0;have G5:=Lib.hid (And.intro hc (And.intro hT (And.intro hR (And.intro hF hbb))));clear hc hT hR hF hbb))
  all_goals
   obtain ⟨H6,R⟩:=add_end C2.out TT2.out B2.out (((Below.refl _ w2).alloc (Nat.le_refl _) _).drew) G5.out.1 G5.out.2.1 G5.out.2.2.1 G5.out.2.2.2.1
   have R6:=Lib.hid R
   clear R
   go_wp2
   go_returns
   exact ⟨by rw [hf2.out];rfl,H6,_,by rw [hw.out];exact R6.out⟩
theorem pending_any (hm : Mem W w H) (hb : BatIn H bb v b) (D i : Nat) (T : TypeId) (cs : Array Value) (d : Bool) (hD : H D = some (.cells cs T (0,0))) (hi : cs[i]? = some (.bool d)) (hne : ¬ batF bb v D) (f : Fr) (hv : FrV f) (hl : -1152921504606846976 ≤ b.lf ∧ b.lf ≤ 1152921504606846976) (hn : b.fs.length ≤ 100000) :
  Calls Tryz.prog 124 #[ptr bb,.pointer (some ⟨D,i,none⟩),f.val] w fun e w'=>e = .returned (.bool (!pendD d b f)) ∧ ∃ w1 H1 v',BatTo W w w1 H H1 bb v v' (pendB d b f) ∧ w' = w1.setCell ⟨D,i,none⟩ (.bool (pendD d b f)):=by
 have B0:=Lib.hid (show Below w.heap.size w (w.alloc (.cells f.cells 38)) from (Below.refl _ w).alloc (Nat.le_refl _) _)
 have X0:=Lib.hid (heap_alloc_new w (.cells f.cells 38))
 have M0:=hm.same B0.out
 have AD:=Lib.hid (add_any M0 hb f hv hl hn)
 have HH:=Lib.hid (And.intro hm (And.intro hb (And.intro hD (And.intro hi hne))))
 have cd : (w.alloc (.cells f.cells 38)).cell? ⟨D,i,none⟩ = some (.bool d):=(cell_whole (M0.at hD) i).trans hi
 have zd : (w.alloc (.cells f.cells 38)).frozen? ⟨D,i,none⟩ = false:=frozen_whole (M0.at hD) i
 have hvf : f.val = .agg f.cells:=rfl
 rw [hvf] at AD ⊢
 generalize hfc : f.cells = fc at B0 X0 AD cd zd ⊢
 have HFC:=Lib.hid hfc
 clear hfc hvf hm hb hD hi hne hv hl hn M0
 unfold ptr at *
 cases d with
 | false=>
  have HS:=Lib.hid (setCell_self cd)
  have HP:=Lib.hid (show pendD false b f = false from rfl)
  have HQ:=Lib.hid (show pendB false b f = b from rfl)
  go_enter Tryz.func124,Tryz.ntmps124
  go_upto_region 1 with fail
  generalize w.alloc (.cells fc 38) = w0 at B0 X0 cd zd HS ⊢
  go_wp2
  go_returns
  exact ⟨by rw [HP.out];rfl,w0,H,v,⟨To.refl (HH.out.1.same B0.out) _,by rw [HQ.out];exact HH.out.2.1,Chg.below B0.out,fun k hk=>.inl hk⟩,by rw [HP.out];exact HS.out.symm⟩
 | true=>
  have HP:=Lib.hid (show pendD true b f = !b.fits f from rfl)
  have HQ:=Lib.hid (show pendB true b f = b.add f from rfl)
  obtain ⟨ft,hft⟩ : ∃ ft,b.fits f = ft:=⟨_,rfl⟩
  rw [hft] at AD HP
  rw [HP.out,HQ.out]
  clear hft HP HQ
  go_enter Tryz.func124,Tryz.ntmps124
  go_upto_region 1 with fail
  generalize w.alloc (.cells fc 38) = w0 at B0 X0 AD cd zd ⊢
  go_wp2_with (first | (refine wpList_load_row rfl 38 _ rfl w.heap.size rfl 38 _ (0,0) _ X0.out Tryz.underlying38 rfl (by rw [← HFC.out];exact size38 f) ?_) | (go_at_call 130;refine AD.out.mono ?_;rintro e w1 ⟨rfl,H1,v',t⟩;have hD1:=t.tt.mem.at (t.tt.kp _ _ HH.out.2.2.1 HH.out.2.2.2.2);have c1 : w1.cell? ⟨D,i,none⟩ = some (.bool true):=(cell_whole hD1 i).trans HH.out.2.2.2.1;have z1 : w1.frozen? ⟨D,i,none⟩ = false:=frozen_whole hD1 i;have TT:=Lib.hid t;clear t hD1 cd zd))
  go_returns
  refine ⟨by simp,w1,H1,v',⟨TT.out.tt,TT.out.bt,Chg.after B0.out TT.out.chg,fun k hk=>(TT.out.fr k hk).imp id (fun c=>Nat.le_trans B0.out.size c)⟩,rfl⟩
end
end
end Go.Proofs.YthckbmcmdcemkaaGreatDoor.stm
