/- Texts of this claim, one behind the other: Mb Mp Md Me Mg. -/
import Derived.Test.YthckbmcmdcemkaaGreatDoorBs22
import Derived.Test.YthckbmcmdcemkaaGreatDoorBs2
import Derived.Test.YthckbmcmdcemkaaGreatDoorBs12
import Derived.Test.YthckbmcmdcemkaaGreatDoorBs17
import Derived.Test.YthckbmcmdcemkaaGreatDoorBs21
import Derived.Test.YthckbmcmdcemkaaGreatDoorBs13
import Derived.Test.YthckbmcmdcemkaaGreatDoorBs1
import Derived.Test.YthckbmcmdcemkaaGreatDoorBs15
import Derived.Deep.RegionWith
import Derived.Lib.Hide
import Derived.BigQuiet
import Derived.Deep.QuietTactic
import Derived.Laws.Bits64
import Derived.Laws.BitsLemmas
set_option maxRecDepth 100000
set_option maxHeartbeats 16000000
set_option linter.unusedSimpArgs false
set_option linter.unusedVariables false
namespace Go.Proofs.YthckbmcmdcemkaaGreatDoor.stm
section
open Go.RowKit Go.Maps Go.Sort Go.Shelf
open frm (MapAt)
theorem isKey (x : Int) : WideAt.IsKeyLit (.int .i64 x):=by simp [WideAt.IsKeyLit]
abbrev Ent:=Nat × Nat
def eP (e : Ent) : Value:=.pointer (some ⟨e.2,0,none⟩)
structure UpE (nx : Nat) (l : List Ent) : Prop where
 inc : l.Pairwise fun p q=>p.1 < q.1
 bnd : ∀ p ∈ l,p.1 < nx
theorem idWf {x : Nat} (h1 : x ≤ 4611686018427387904) : (Lit.int .i64 x).wf = true:=by
 have : IntKind.i64.min = -9223372036854775808:=by decide
 have : IntKind.i64.max = 9223372036854775807:=by decide
 simp [Lit.wf];omega
structure HoldsE (D : DataW Value) (l : List Ent) : Prop where
 tidy : Tidy D
 mem : ∀ x : Int,Maps.has D (.int .i64 x) = true ↔ ∃ p ∈ l,(p.1 : Int) = x
 at_ : ∀ p ∈ l,∀ z,D.atKey (.int .i64 p.1) (.held z) = .held (eP p)
theorem holdsE_nil : HoldsE (.map []) []:=⟨tidy_empty,fun x=>by simp [Maps.has],fun p hp=>by cases hp⟩
theorem HoldsE.same {D : DataW Value} {l l' : List Ent} (h : HoldsE D l) (hl : ∀ p,p ∈ l' ↔ p ∈ l) : HoldsE D l':=
 ⟨h.tidy,fun x=>(h.mem x).trans ⟨fun ⟨p,hp,e⟩=>⟨p,(hl p).2 hp,e⟩,fun ⟨p,hp,e⟩=>⟨p,(hl p).1 hp,e⟩⟩,fun p hp z=>h.at_ p ((hl p).1 hp) z⟩
theorem HoldsE.put {D : DataW Value} {l : List Ent} (h : HoldsE D l) (p : Ent) (hp : ∀ q ∈ l,q.1 ≠ p.1) : HoldsE (D.put (.int .i64 p.1) (.held (eP p))) (p :: l):=by
 refine ⟨h.tidy.put (isKey _) _,fun x=>?_,fun q hq z=>?_⟩
 ·by_cases e : x = p.1
  ·subst e
   rw [has_put_same h.tidy.isMap (isKey _)]
   simp
  ·rw [has_put_other (fun e2=>e (by cases e2;rfl)),h.mem]
   constructor
   ·rintro ⟨q,hq,rfl⟩;exact ⟨q,by simp [hq],rfl⟩
   ·rintro ⟨q,hq,rfl⟩
    rcases List.mem_cons.1 hq with rfl | hq
    ·exact absurd rfl e
    ·exact ⟨q,hq,rfl⟩
 ·rcases List.mem_cons.1 hq with rfl | hq
  ·rw [atKey_put_same h.tidy.isMap (isKey _)]
  ·have hne : Lit.int .i64 (q.1 : Int) ≠ Lit.int .i64 (p.1 : Int):=fun e2=>by
    have e3 : (q.1 : Int) = (p.1 : Int):=by simpa using e2
    exact hp q hq (by omega)
   rw [atKey_put_other hne]
   exact h.at_ q hq z
theorem HoldsE.del {D : DataW Value} {l : List Ent} (h : HoldsE D l) (x : Nat) : HoldsE (D.del (.int .i64 x)) (l.filter fun p=>p.1 != x):=by
 refine ⟨h.tidy.del _,fun y=>?_,fun q hq z=>?_⟩
 ·by_cases e : y = (x : Int)
  ·subst e
   rw [has_del_same]
   simp
   intro a b _ hne;omega
  ·rw [has_del_other (fun e2=>e (by cases e2;rfl)),h.mem]
   constructor
   ·rintro ⟨q,hq,rfl⟩;exact ⟨q,List.mem_filter.2 ⟨hq,by simp;omega⟩,rfl⟩
   ·rintro ⟨q,hq,rfl⟩;exact ⟨q,(List.mem_filter.1 hq).1,rfl⟩
 ·obtain ⟨h1,h2⟩:=List.mem_filter.1 hq
  have h2 : q.1 ≠ x:=by simpa using h2
  rw [atKey_del_other (fun e2=>h2 (by (have : (q.1 : Int) = (x : Int):=by simpa using e2);omega))]
  exact h.at_ q h1 z
def MapE (w : World) (M nn : Nat) (l : List Ent) : Prop:=∃ D,MapAt w 3 M nn D ∧ HoldsE D l
theorem mapAt_of_block {w w' : World} {k : TypeId} {b n : Nat} {D : DataW Value} (h : MapAt w k b n D) (hb : w'.heap[b]? = w.heap[b]?) : MapAt w' k b n D:=by
 obtain ⟨es,clock,h1,Ft,hs,hD⟩:=h
 exact ⟨es,clock,hb.trans h1,Ft,hs,hD⟩
theorem MapE.of_block {w w' : World} {M nn : Nat} {l : List Ent} (h : MapE w M nn l) (hb : w'.heap[M]? = w.heap[M]?) : MapE w' M nn l:=by
 obtain ⟨D,h1,h2⟩:=h
 exact ⟨D,mapAt_of_block h1 hb,h2⟩
theorem MapE.lt {w : World} {M nn : Nat} {l : List Ent} (h : MapE w M nn l) : M < w.heap.size:=by
 obtain ⟨D,h1,h2⟩:=h
 exact h1.lt
theorem MapE.look {w : World} {M nn : Nat} {l : List Ent} (h : MapE w M nn l) {p : Ent} (hp : p ∈ l) (hw : (Lit.int .i64 p.1).wf = true) : (Instr.lookup 109 (.map (some M)) (.int .i64 p.1) false).run Tryz.prog w = .ok (eP p) w:=by
 obtain ⟨D,h1,h2⟩:=h
 exact h1.look (t:=109) (e:=121) (K:=Maps.int_keyed Tryz.underlying3) Tryz.underlying109 (Tryz.zeroValue121 w) (Maps.keyOf_int_mk Tryz.underlying3 hw) (h2.at_ p hp _)
theorem MapE.look_no {w : World} {M nn : Nat} {l : List Ent} (h : MapE w M nn l) {x : Int} (hp : ∀ p ∈ l,(p.1 : Int) ≠ x) (hw : (Lit.int .i64 x).wf = true) : (Instr.lookup 109 (.map (some M)) (.int .i64 x) false).run Tryz.prog w = .ok (.pointer none) w:=by
 obtain ⟨D,h1,h2⟩:=h
 have hh : Maps.has D (.int .i64 x) = false:=by
  cases e : Maps.has D (.int .i64 x) with
  | false=>rfl
  | true=>obtain ⟨p,hm,hx⟩:=(h2.mem x).1 e;exact absurd hx (hp p hm)
 exact h1.look (t:=109) (e:=121) (K:=Maps.int_keyed Tryz.underlying3) Tryz.underlying109 (Tryz.zeroValue121 w) (Maps.keyOf_int_mk Tryz.underlying3 hw) (atKey_of_not_has hh _)
theorem keysE_sorted {D : DataW Value} {l : List Ent} {nx : Nat} (h : HoldsE D l) (hu : UpE nx l) (hk : ∀ es,D = .map es → ∀ p ∈ es,∃ x,p.1 = .int .i64 x) {ss : List Int} (hs : ss.Perm (intKeys D)) :
  ss.mergeSort (fun x y=>decide (x ≤ y)) = l.map (fun p=>(p.1 : Int)) ∧ ss.length = l.length:=by
 obtain ⟨es,rfl,ht⟩:=h.tidy
 have hnd : (l.map (fun p=>(p.1 : Int))).Nodup:=List.pairwise_map.2 (hu.inc.imp fun h e=>by omega)
 have hp:=perm_intKeys ht (hk es rfl) hnd (fun x=>by rw [h.mem,List.mem_map])
 have hp2 : ss.Perm (l.map (fun p=>(p.1 : Int))):=hs.trans hp.symm
 refine ⟨?_,by rw [hp2.length_eq,List.length_map]⟩
 refine List.Perm.eq_of_pairwise (le:=fun a b=>a ≤ b) (fun a b _ _ h1 h2=>Int.le_antisymm h1 h2) ?_ ?_ ((List.mergeSort_perm _ _).trans hp2)
 ·refine (List.pairwise_mergeSort (le:=fun x y : Int=>decide (x ≤ y)) (fun a b c h1 h2=>by simp only [decide_eq_true_eq] at *;omega) (fun a b=>by simp only [Bool.or_eq_true,decide_eq_true_eq];omega) ss).imp fun h=>by simpa using h
 ·exact List.pairwise_map.2 (hu.inc.imp fun h=>by omega)
theorem mapAt_keys {w : World} {b n : Nat} {D : DataW Value} (h : MapAt w 3 b n D) : ∀ es,D = .map es → ∀ p ∈ es,∃ x,p.1 = .int .i64 x:=by
 obtain ⟨es,rfl,hko⟩:=World.ownsMap.keysOf h
 rintro es' e p hp
 cases e
 obtain ⟨v,hv⟩:=hko p hp
 obtain ⟨x,_,hx,_⟩:=Maps.keyOf_i64 Tryz.underlying3 hv
 exact ⟨x,hx⟩
end
structure Snd where
 most : Int
 used : Int
 rep : Int
structure Rcr where
 most : Int
 win : Int
 hi : Int
 rd : Int
def maxOff : Int:=1099511627776
def Snd.raise (s : Snd) (n : Int) : Snd:={ s with most:=max s.most (min n maxOff) }
def Snd.av (s : Snd) : Int:=s.most - s.used
def Snd.isBl (s : Snd) : Bool:=!(decide (0 < s.av) || decide (s.rep = s.most + 1))
def Snd.bl (s : Snd) : Snd:=if s.isBl then { s with rep:=s.most + 1 } else s
def Rcr.recv (r : Rcr) (h : Int) : Rcr:=if h < 0 ∨ r.most < h then r else { r with hi:=max r.hi h }
def Rcr.read (r : Rcr) (n : Int) : Rcr:=if 0 < n then { r with rd:=r.rd + min n (r.hi - r.rd) } else r
def Rcr.near (r : Rcr) : Bool:=decide (r.most - r.rd ≤ r.win / 2)
def Rcr.upd (r : Rcr) : Rcr:=if r.near then { r with most:=max r.most (min (r.rd + r.win) maxOff) } else r
def Rcr.up (r : Rcr) : Bool:=decide (r.upd.most ≠ r.most)
structure OutP where
 X : Wh
 cr : Snd
 send : Int
 fnd : Bool
 rw : Int
 rd : Bool
 ak : List (Int × Int)
 sc : Int
structure InP where
 R : rea.Rb
 wn : Rcr
 recv : Int
 stp : Bool
 sw : Int
 sd : Bool
 md : Bool
 cn : Int
 fl : Int
 rc : Int
structure Strm where
 id : Nat
 out : Option OutP
 inp : Option InP
 acc : Bool
structure Grp where
 opn : Int
 acc : Int
 olim : Int
 gr : Int
 fg : Int
 md : Bool
 bl : Bool
 rep : Int
structure Pms where
 data : Int
 sdata : Int
 bidi : Int
 uni : Int
 ad : Int
 idle : Int
structure SetP where
 cl : Bool
 loc : Pms
 peer : Pms
 ss : List Strm
 g0 : Grp
 g1 : Grp
 cr : Snd
 wn : Rcr
 tot : Int
 dd : Bool
 srv : Int
def sendTab : List (Int × Int × Int):=[(0,1,1),(0,2,2),(0,4,3),(1,1,1),(1,2,2),(1,4,3),(2,3,4),(2,4,3),(3,5,5),(3,3,3),(4,4,4),(5,4,5),(5,4,5)]
def recvTab : List (Int × Int × Int):=[(0,6,1),(0,9,3),(1,6,1),(1,7,2),(1,9,3),(2,6,2),(2,8,4),(2,9,2),(3,6,3),(3,9,3),(3,10,5),(4,6,4),(4,9,4)]
def look (tab : List (Int × Int × Int)) (s v : Int) : Int:=match tab.find? (fun e=>e.1 == s && e.2.1 == v) with | some e=>e.2.2 | none=>s
def onS (s v : Int) : Int:=look sendTab s v
def onR (s v : Int) : Int:=if s = 5 then 5 else look recvTab s v
def OutP.on (o : OutP) (v : Int) : OutP:={ o with send:=onS o.send v }
def InP.on (i : InP) (v : Int) : InP:={ i with recv:=onR i.recv v }
def OutP.act (o : OutP) : Bool:=decide (o.send ≤ 2)
def OutP.wait (o : OutP) : Bool:=o.act && decide (o.send ≠ 2) && decide (o.X.sent < o.X.S.length)
def OutP.aband (o : OutP) (c : Int) : OutP:={ o.on 4 with rw:=c,rd:=true }
def outAct : Option OutP → Bool | none=>false | some o=>o.act
def outWait : Option OutP → Bool | none=>false | some o=>o.wait
def InP.wasR (i : InP) : Bool:=decide (i.recv = 3) || decide (i.recv = 5)
def dn (s : Int) : Bool:=decide (s = 4) || decide (s = 5)
def Strm.done (x : Strm) : Bool:=(match x.out with | none=>true | some o=>dn o.send) && (match x.inp with | none=>true | some i=>dn i.recv)
section
open Go.RowKit
def Snd.cells (s : Snd) : Array Value:=#[.int .i64 s.most,.int .i64 s.used,.int .i64 s.rep]
def Rcr.cells (r : Rcr) : Array Value:=#[.int .i64 r.most,.int .i64 r.win,.int .i64 r.hi,.int .i64 r.rd]
def ptr (b : Nat) : Value:=.pointer (some ⟨b,0,none⟩)
def optP : Option Nat → Value
 | none=>.pointer none
 | some b=>ptr b
structure OutA where
 ob : Nat
 bb : Nat
 cb : Nat
 ak : Value
 bf : Nat → Prop
def OutA.foot (a : OutA) (k : Nat) : Prop:=k = a.ob ∨ a.bf k ∨ k = a.cb ∨ a.ak.ownBlock = some k
def spans (l : List (Int × Int)) : List Value:=l.flatMap fun p=>[.int .i64 p.1,.int .i64 p.2]
def OutP.cells (o : OutP) (a : OutA) : Array Value:=#[ptr a.bb,ptr a.cb,.int .i64 o.send,.bool o.fnd,.int .i64 o.rw,.bool o.rd,a.ak,.int .i64 o.sc]
structure Snd.Ok (s : Snd) : Prop where
 u0 : 0 ≤ s.used
 um : s.used ≤ s.most
 mm : s.most ≤ maxOff
structure Rcr.Ok (r : Rcr) : Prop where
 r0 : 0 ≤ r.rd
 rh : r.rd ≤ r.hi
 hm : r.hi ≤ r.most
 mm : r.most ≤ maxOff
 w0 : 0 ≤ r.win
 w1 : r.win ≤ 1073741824
structure AkOk (l : List (Int × Int)) : Prop where
 bd : ∀ p ∈ l,0 ≤ p.1 ∧ p.1 < p.2 ∧ p.2 ≤ maxOff
 up : l.Pairwise fun p q=>p.2 < q.1
structure OutIn (H : Nat → Option Obj) (a : OutA) (o : OutP) : Prop where
 ob : H a.ob = some (.cells (o.cells a) 126 (0,0))
 bf : BufIn H a.bb o.X a.bf
 cb : H a.cb = some (.cells o.cr.cells 161 (0,0))
 ak : RowH H 164 2 a.ak o.ak.length (spans o.ak)
 cr : o.cr.Ok
 ko : AkOk o.ak
structure InA where
 ib : Nat
 rb : Nat
 g1 : Nat
 g2 : Nat
 wb : Nat
def InA.foot (a : InA) (k : Nat) : Prop:=k = a.ib ∨ k = a.rb ∨ k = a.g1 ∨ k = a.g2 ∨ k = a.wb
def InP.cells (i : InP) (a : InA) : Array Value:=#[ptr a.rb,ptr a.wb,.int .i64 i.recv,.bool i.stp,.int .i64 i.sw,.bool i.sd,.bool i.md,.int .i64 i.cn,.int .i64 i.fl,.int .i64 i.rc]
structure InIn (H : Nat → Option Obj) (a : InA) (i : InP) : Prop where
 ib : H a.ib = some (.cells (i.cells a) 155 (0,0))
 rb : H a.rb = some (.cells (i.R.cells a.g1 a.g2) 227 (0,0))
 h1 : H a.g1 = some (rea.u8s i.R.bs)
 h2 : H a.g2 = some (rea.bls i.R.hs)
 hl : i.R.hs.length = i.R.bs.length
 sm : i.R.bs.length ≤ 8192
 wb : H a.wb = some (.cells i.wn.cells 200 (0,0))
 wn : i.wn.Ok
structure StA where
 xb : Nat
 o : Option OutA
 i : Option InA
def footO : Option OutA → Nat → Prop
 | none,_=>False
 | some a,k=>a.foot k
def footI : Option InA → Nat → Prop
 | none,_=>False
 | some a,k=>a.foot k
def StA.foot (a : StA) (k : Nat) : Prop:=k = a.xb ∨ footO a.o k ∨ footI a.i k
def OptO (H : Nat → Option Obj) : Option OutA → Option OutP → Prop
 | none,none=>True
 | some a,some o=>OutIn H a o
 | _,_=>False
def OptI (H : Nat → Option Obj) : Option InA → Option InP → Prop
 | none,none=>True
 | some a,some i=>InIn H a i
 | _,_=>False
def StA.cells (a : StA) (x : Strm) : Array Value:=#[.int .i64 x.id,optP (a.o.map (·.ob)),optP (a.i.map (·.ib)),.bool x.acc]
structure StIn (H : Nat → Option Obj) (a : StA) (x : Strm) : Prop where
 xb : H a.xb = some (.cells (a.cells x) 130 (0,0))
 o : OptO H a.o x.out
 i : OptI H a.i x.inp
 dj : ∀ k,footO a.o k → ¬ footI a.i k
section
variable {H H' : Nat → Option Obj} {k : Nat} {o : Obj}
theorem OutIn.dom {a : OutA} {x : OutP} (h : OutIn H a x) (hk : a.foot k) : ∃ o,H k = some o:=by
 rcases hk with rfl | hk | rfl | hk
 ·exact ⟨_,h.ob⟩
 ·exact h.bf.dom hk
 ·exact ⟨_,h.cb⟩
 ·obtain ⟨c,hc⟩:=h.ak.block hk;exact ⟨_,hc⟩
theorem InIn.dom {a : InA} {x : InP} (h : InIn H a x) (hk : a.foot k) : ∃ o,H k = some o:=by
 rcases hk with rfl | rfl | rfl | rfl | rfl
 ·exact ⟨_,h.ib⟩
 ·exact ⟨_,h.rb⟩
 ·exact ⟨_,h.h1⟩
 ·exact ⟨_,h.h2⟩
 ·exact ⟨_,h.wb⟩
theorem OptO.dom {a : Option OutA} {x : Option OutP} (h : OptO H a x) (hk : footO a k) : ∃ o,H k = some o:=by
 cases a with
 | none=>exact hk.elim
 | some a=>cases x with
  | none=>exact h.elim
  | some x=>exact OutIn.dom h hk
theorem OptI.dom {a : Option InA} {x : Option InP} (h : OptI H a x) (hk : footI a k) : ∃ o,H k = some o:=by
 cases a with
 | none=>exact hk.elim
 | some a=>cases x with
  | none=>exact h.elim
  | some x=>exact InIn.dom h hk
theorem StIn.dom {a : StA} {x : Strm} (h : StIn H a x) (hk : a.foot k) : ∃ o,H k = some o:=by
 rcases hk with rfl | hk | hk
 ·exact ⟨_,h.xb⟩
 ·exact h.o.dom hk
 ·exact h.i.dom hk
theorem OutIn.keep {a : OutA} {x : OutP} (h : OutIn H a x) (hs : ∀ k o,a.foot k → H k = some o → H' k = some o) : OutIn H' a x:=
 ⟨hs _ _ (.inl rfl) h.ob,h.bf.keep (fun k o e=>hs k o (.inr (.inl e))),hs _ _ (.inr (.inr (.inl rfl))) h.cb,h.ak.keep (fun k o e=>hs k o (.inr (.inr (.inr e)))),h.cr,h.ko⟩
theorem InIn.keep {a : InA} {x : InP} (h : InIn H a x) (hs : ∀ k o,a.foot k → H k = some o → H' k = some o) : InIn H' a x:=
 ⟨hs _ _ (.inl rfl) h.ib,hs _ _ (.inr (.inl rfl)) h.rb,hs _ _ (.inr (.inr (.inl rfl))) h.h1,hs _ _ (.inr (.inr (.inr (.inl rfl)))) h.h2,h.hl,h.sm,hs _ _ (.inr (.inr (.inr (.inr rfl)))) h.wb,h.wn⟩
theorem OptO.keep {a : Option OutA} {x : Option OutP} (h : OptO H a x) (hs : ∀ k o,footO a k → H k = some o → H' k = some o) : OptO H' a x:=by
 cases a with
 | none=>cases x with
  | none=>exact h
  | some x=>exact h.elim
 | some a=>cases x with
  | none=>exact h.elim
  | some x=>exact OutIn.keep h hs
theorem OptI.keep {a : Option InA} {x : Option InP} (h : OptI H a x) (hs : ∀ k o,footI a k → H k = some o → H' k = some o) : OptI H' a x:=by
 cases a with
 | none=>cases x with
  | none=>exact h
  | some x=>exact h.elim
 | some a=>cases x with
  | none=>exact h.elim
  | some x=>exact InIn.keep h hs
theorem StIn.keep {a : StA} {x : Strm} (h : StIn H a x) (hs : ∀ k o,a.foot k → H k = some o → H' k = some o) : StIn H' a x:=
 ⟨hs _ _ (.inl rfl) h.xb,h.o.keep (fun k o e=>hs k o (.inr (.inl e))),h.i.keep (fun k o e=>hs k o (.inr (.inr e))),h.dj⟩
end
structure SetA where
 sb : Nat
 M : Nat
 cb : Nat
 wb : Nat
structure SetS where
 cl : Bool
 loc : Pms
 peer : Pms
 ss : List (StA × Strm)
 g0 : Grp
 g1 : Grp
 cr : Snd
 wn : Rcr
 tot : Int
 dd : Bool
 srv : Int
def SetS.cells (s : SetS) (a : SetA) : Array Value:=#[.bool s.cl,.int .i64 s.loc.data,.int .i64 s.loc.sdata,.int .i64 s.loc.bidi,.int .i64 s.loc.uni,.int .i64 s.loc.ad,.int .i64 s.loc.idle,.int .i64 s.peer.data,.int .i64 s.peer.sdata,.int .i64 s.peer.bidi,.int .i64 s.peer.uni,.int .i64 s.peer.ad,.int .i64 s.peer.idle,.map (some a.M),.int .i64 s.g0.opn,.int .i64 s.g0.acc,.int .i64 s.g0.olim,.int .i64 s.g0.gr,.int .i64 s.g0.fg,.bool s.g0.md,.bool s.g0.bl,.int .i64 s.g0.rep,.int .i64 s.g1.opn,.int .i64 s.g1.acc,.int .i64 s.g1.olim,.int .i64 s.g1.gr,.int .i64 s.g1.fg,.bool s.g1.md,.bool s.g1.bl,.int .i64 s.g1.rep,ptr a.cb,ptr a.wb,.int .i64 s.tot,.bool s.dd,.int .i64 s.srv]
def ents (l : List (StA × Strm)) : List Ent:=l.map fun e=>(e.2.id,e.1.xb)
def SetA.own (a : SetA) (k : Nat) : Prop:=k = a.sb ∨ k = a.M ∨ k = a.cb ∨ k = a.wb
def footL (l : List (StA × Strm)) (k : Nat) : Prop:=∃ e ∈ l,e.1.foot k
def SetS.foot (s : SetS) (a : SetA) (k : Nat) : Prop:=a.own k ∨ footL s.ss k
structure LiIn (H : Nat → Option Obj) (l : List (StA × Strm)) : Prop where
 all : ∀ e ∈ l,StIn H e.1 e.2
 dj : l.Pairwise fun e f=>∀ k,e.1.foot k → ¬ f.1.foot k
 up : l.Pairwise fun e f=>e.2.id < f.2.id
 bd : ∀ e ∈ l,e.2.id < 1152921504606846976
structure SetIn (H : Nat → Option Obj) (a : SetA) (s : SetS) : Prop where
 sb : H a.sb = some (.cells (s.cells a) 115 (0,0))
 mp : ∃ mo,H a.M = some mo ∧ frm.isC mo = false ∧ ∀ w : World,w.heap[a.M]? = some mo → MapE w a.M (ents s.ss).length (ents s.ss)
 cb : H a.cb = some (.cells s.cr.cells 161 (0,0))
 wb : H a.wb = some (.cells s.wn.cells 200 (0,0))
 cr : s.cr.Ok
 wn : s.wn.Ok
 li : LiIn H s.ss
 dj : ∀ k,a.own k → ¬ footL s.ss k
end
section
open Go.RowKit
theorem newR_any (n : Int) (h0 : 0 ≤ n) (h1 : n ≤ 1073741824) (w : World) : Calls Tryz.prog 56 #[.int .i64 n] w fun e w'=>e = .returned (.tuple #[ptr w.heap.size,.int .i64 0]) ∧ w' = w.alloc (.cells (Rcr.cells ⟨n,n,0,0⟩) 200):=by
 have g1 : (n < 0) = False:=eq_false (by omega)
 have g2 : (1073741824 < n) = False:=eq_false (by omega)
 unfold Rcr.cells ptr
 go_enter Tryz.func56,Tryz.ntmps56
 go_wp2
 go_returns
 exact ⟨rfl,rfl⟩
theorem newS_any (n : Int) (h0 : 0 ≤ n) (h1 : n ≤ 1099511627776) (w : World) : Calls Tryz.prog 29 #[.int .i64 n] w fun e w'=>e = .returned (.tuple #[ptr w.heap.size,.int .i64 0]) ∧ w' = w.alloc (.cells (Snd.cells ⟨n,0,0⟩) 161):=by
 have g1 : (n < 0) = False:=eq_false (by omega)
 have g2 : (1099511627776 < n) = False:=eq_false (by omega)
 unfold Snd.cells ptr
 go_enter Tryz.func29,Tryz.ntmps29
 go_wp2
 go_returns
 exact ⟨rfl,rfl⟩
theorem raise_any (b : Nat) (T : TypeId) (cs : Array Value) (most n : Int) (w : World) (h : w.heap[b]? = some (.cells cs T (0,0))) (h0 : cs[0]? = some (.int .i64 most)) :
  Calls Tryz.prog 137 #[.pointer (some ⟨b,0,none⟩),.int .i64 n] w fun e w'=>e = .returned (.tuple #[]) ∧ w' = w.setCell ⟨b,0,none⟩ (.int .i64 (max most (min n maxOff))):=by
 have c0:=at_whole h 0 h0
 have z0:=frozen_whole h 0
 obtain ⟨q,hq⟩ : ∃ q,min n maxOff = q:=⟨_,rfl⟩
 rw [hq]
 have m1 : (if 1099511627776 < n then (1099511627776 : Int) else n) = q:=by unfold maxOff at hq;split <;> omega
 have m3 : (if n < 1099511627776 then n else (1099511627776 : Int)) = q:=by unfold maxOff at hq;split <;> omega
 have m2 : (if most < q then q else most) = max most q:=by split <;> omega
 clear h h0 hq
 go_enter Tryz.func137,Tryz.ntmps137
 go_wp2
 go_end0
 exact ⟨rfl,rfl⟩
def SndAt (w : World) (b : Nat) (s : Snd) : Prop:=w.heap[b]? = some (.cells s.cells 161 (0,0))
def RcrAt (w : World) (b : Nat) (r : Rcr) : Prop:=w.heap[b]? = some (.cells r.cells 200 (0,0))
theorem raiseS_any (b : Nat) (s : Snd) (n : Int) (w : World) (h : SndAt w b s) :
  Calls Tryz.prog 68 #[ptr b,.int .i64 n] w fun e w'=>e = .returned (.tuple #[]) ∧ Blk b (s.raise n).cells 161 w w':=by
 have R:=Lib.hid (raise_any b 161 s.cells s.most n w h rfl)
 have F:=Lib.hid ((Blk.start h).set 0 (.int .i64 (max s.most (min n maxOff))))
 clear h
 unfold ptr
 go_enter Tryz.func68,Tryz.ntmps68
 go_wp2_with (go_at_call 137;refine R.out.mono ?_;rintro e w1 ⟨rfl,rfl⟩)
 go_end0
 exact ⟨rfl,F.out⟩
theorem avail_any (b : Nat) (s : Snd) (w : World) (h : SndAt w b s) (ok : s.Ok) :
  Calls Tryz.prog 30 #[ptr b] w fun e w'=>e = .returned (.int .i64 s.av) ∧ ∃ n,w' = w.drewN n:=by
 obtain ⟨most,used,rep⟩:=s
 obtain ⟨h1,h2,h3⟩:=ok
 simp only at h1 h2 h3
 unfold maxOff at h3
 have c0 : w.cell? ⟨b,0,none⟩ = some (.int .i64 most):=at_whole h 0 rfl
 have c1 : w.cell? ⟨b,1,none⟩ = some (.int .i64 used):=at_whole h 1 rfl
 have hw : IntKind.i64.wrap (most - used) = most - used:=IntWalk.i64_in _ (by omega)
 unfold ptr Snd.av
 go_enter Tryz.func30,Tryz.ntmps30
 go_wp2_with fail
 go_quiet (fail)
 go_wp2
 go_ret
 exact ⟨rfl,_,rfl⟩
theorem use_ok (b : Nat) (s : Snd) (n : Int) (w : World) (h : SndAt w b s) (ok : s.Ok) (h4 : 0 ≤ n) (h5 : n ≤ s.av) :
  Calls Tryz.prog 136 #[ptr b,.int .i64 n] w fun e w'=>e = .returned (.int .i64 0) ∧ Blk b (Snd.cells { s with used:=s.used + n }) 161 w w':=by
 have A:=Lib.hid (avail_any b s w h ok)
 obtain ⟨most,used,rep⟩:=s
 obtain ⟨h1,h2,h3⟩:=ok
 simp only [Snd.av] at h1 h2 h3 h5 A
 unfold maxOff at h3
 have H:=Lib.hid h
 have g1 : (n < 0) = False:=eq_false (by omega)
 have g2 : (most - used < n) = False:=eq_false (by omega)
 have hw : IntKind.i64.wrap (used + n) = used + n:=IntWalk.i64_in _ (by omega)
 have c1:=at_whole h 1 rfl
 have z1:=frozen_whole h 1
 simp only [Snd.cells,List.getElem_toArray,List.getElem_cons_zero,List.getElem_cons_succ] at c1
 clear h
 unfold ptr at *
 go_enter Tryz.func136,Tryz.ntmps136
 go_wp2_with (go_at_call 30;refine A.out.mono ?_;rintro e w1 ⟨rfl,q,rfl⟩)
 go_ret
 exact ⟨rfl,((Blk.start H.out).drewN q).set 1 _⟩
theorem receive_ok (b : Nat) (r : Rcr) (n : Int) (w : World) (h : RcrAt w b r) (h4 : 0 ≤ n) (h5 : n ≤ r.most) :
  Calls Tryz.prog 271 #[ptr b,.int .i64 n] w fun e w'=>e = .returned (.int .i64 0) ∧ Blk b (Rcr.cells { r with hi:=max r.hi n }) 200 w w':=by
 obtain ⟨most,win,hi,rd⟩:=r
 simp only at h5
 have H:=Lib.hid h
 have g1 : (n < 0) = False:=eq_false (by omega)
 have g2 : (most < n) = False:=eq_false (by omega)
 have c0:=at_whole h 0 rfl
 have c2:=at_whole h 2 rfl
 have z2:=frozen_whole h 2
 simp only [Rcr.cells,List.getElem_toArray,List.getElem_cons_zero,List.getElem_cons_succ] at c0 c2
 have hm : (if hi < n then n else hi) = max hi n:=by split <;> omega
 have F:=Lib.hid ((Blk.start H.out).set 2 (.int .i64 (max hi n)))
 clear h
 unfold ptr
 go_enter Tryz.func271,Tryz.ntmps271
 go_wp2
 go_ret
 exact ⟨rfl,F.out⟩
theorem limit_any (b : Nat) (r : Rcr) (w : World) (h : RcrAt w b r) :
  Calls Tryz.prog 125 #[ptr b] w fun e w'=>e = .returned (.int .i64 r.most) ∧ w = w':=by
 have c0 : w.cell? ⟨b,0,none⟩ = some (.int .i64 r.most):=at_whole h 0 rfl
 clear h
 unfold ptr
 go_enter Tryz.func125,Tryz.ntmps125
 go_wp2
 go_ret
 exact ⟨rfl,rfl⟩
theorem readR_any (b : Nat) (r : Rcr) (n : Int) (w : World) (h : RcrAt w b r) (ok : r.Ok) (h5 : n ≤ 9223372036854775807) :
  Calls Tryz.prog 146 #[ptr b,.int .i64 n] w fun e w'=>e = .returned (.tuple #[]) ∧ Blk b (r.read n).cells 200 w w':=by
 obtain ⟨most,win,hi,rd⟩:=r
 obtain ⟨h1,h2,h3,h4,_,_⟩:=ok
 simp only at h1 h2 h3 h4
 unfold maxOff at h4
 have c2 : w.cell? ⟨b,2,none⟩ = some (.int .i64 hi):=at_whole h 2 rfl
 have c3 : w.cell? ⟨b,3,none⟩ = some (.int .i64 rd):=at_whole h 3 rfl
 have z3:=frozen_whole h 3
 have e1 : IntKind.i64.wrap (hi - rd) = hi - rd:=IntWalk.i64_in _ (by omega)
 obtain ⟨q,hq⟩ : ∃ q,min n (hi - rd) = q:=⟨_,rfl⟩
 have m1 : (if hi - rd < n then hi - rd else n) = q:=by split <;> omega
 have m2 : (if n < hi - rd then n else hi - rd) = q:=by split <;> omega
 have F:=Lib.hid (((Blk.start h).set 3 (.int .i64 (rd + q))).drew)
 have B:=Lib.hid (Blk.start h)
 clear h
 unfold ptr Rcr.read
 simp only [hq]
 by_cases hz : 0 < n
 ·have hp2 : decide (0 < n) = true:=decide_eq_true hz
  have e2 : IntKind.i64.wrap (rd + q) = rd + q:=IntWalk.i64_in _ (by omega)
  rw [if_pos hz]
  clear hq
  go_enter Tryz.func146,Tryz.ntmps146
  go_wp2_with fail
  go_region
  go_wp2
  go_end0
  exact ⟨rfl,F.out⟩
 ·have hp2 : (0 < n) = False:=eq_false hz
  rw [if_neg hz]
  clear e1 m1 m2 F hz hq
  go_enter Tryz.func146,Tryz.ntmps146
  go_wp2
  go_end0
  exact ⟨rfl,B.out⟩
theorem update_any (b : Nat) (r : Rcr) (w : World) (h : RcrAt w b r) (ok : r.Ok) :
  Calls Tryz.prog 123 #[ptr b] w fun e w'=>(∃ v,e = .returned (.tuple #[.int .i64 v,.bool r.up])) ∧ Blk b r.upd.cells 200 w w':=by
 obtain ⟨most,win,hi,rd⟩:=r
 obtain ⟨h1,h2,h3,h4,h5,h6⟩:=ok
 simp only at h1 h2 h3 h4 h5 h6
 unfold maxOff at h4
 have c0 : w.cell? ⟨b,0,none⟩ = some (.int .i64 most):=at_whole h 0 rfl
 have c1 : w.cell? ⟨b,1,none⟩ = some (.int .i64 win):=at_whole h 1 rfl
 have c3 : w.cell? ⟨b,3,none⟩ = some (.int .i64 rd):=at_whole h 3 rfl
 have e1 : IntKind.i64.wrap (most - rd) = most - rd:=IntWalk.i64_in _ (by omega)
 have e2 : win.tdiv 2 = win / 2:=Int.tdiv_eq_ediv_of_nonneg h5
 have e3 : IntKind.i64.wrap (win / 2) = win / 2:=IntWalk.i64_in _ (by omega)
 have e4 : IntKind.i64.wrap (rd + win) = rd + win:=IntWalk.i64_in _ (by omega)
 have B:=Lib.hid (Blk.start h)
 have hmf : ∀ (fn : Fn) (first cap : Array Value) (w : World),(Instr.makeFunc fn first cap).run Tryz.prog w = .ok (.func fn first cap) w:=fun _ _ _ _=>rfl
 unfold ptr
 by_cases hc : win / 2 < most - rd
 ·have hn : (Rcr.near ⟨most,win,hi,rd⟩) = false:=decide_eq_false (by simp only;omega)
  have hup : (Rcr.up ⟨most,win,hi,rd⟩) = false:=by unfold Rcr.up Rcr.upd;rw [hn];simp
  have hud : (Rcr.upd ⟨most,win,hi,rd⟩) = ⟨most,win,hi,rd⟩:=by unfold Rcr.upd;rw [hn];simp
  rw [hup,hud]
  have d0 : decide (win / 2 < most - rd) = true:=decide_eq_true hc
  clear h hn hup hud
  go_enter Tryz.func123,Tryz.ntmps123
  go_wp2_with fail
  go_quiet (fail)
  go_wp2
  go_returns
  exact ⟨⟨_,rfl⟩,B.out.drewN _⟩
 ·have hn : (Rcr.near ⟨most,win,hi,rd⟩) = true:=decide_eq_true (by simp only;omega)
  have hud : (Rcr.upd ⟨most,win,hi,rd⟩) = ⟨max most (min (rd + win) maxOff),win,hi,rd⟩:=by unfold Rcr.upd;rw [hn];simp
  have hup : (Rcr.up ⟨most,win,hi,rd⟩) = decide (max most (min (rd + win) maxOff) ≠ most):=by unfold Rcr.up;rw [hud]
  rw [hup,hud]
  have d1 : (win / 2 < most - rd) = False:=eq_false hc
  obtain ⟨q,hq⟩ : ∃ q,max most (min (rd + win) maxOff) = q:=⟨_,rfl⟩
  rw [hq]
  obtain ⟨bb,hbb⟩ : ∃ bb,decide (q ≠ most) = bb:=⟨_,rfl⟩
  rw [hbb]
  have HBB:=Lib.hid hbb
  clear hbb
  have RA:=Lib.hid (fun (wx : World) (hx : wx.heap[b]? = some (.cells (Rcr.cells ⟨most,win,hi,rd⟩) 200 (0,0)))=>by have:=raise_any b 200 (Rcr.cells ⟨most,win,hi,rd⟩) most (rd + win) wx hx rfl;rw [hq] at this;exact this)
  clear h hn hup hud hq hc
  go_enter Tryz.func123,Tryz.ntmps123
  go_wp2_with fail
  go_quiet (fail)
  go_wp2_with fail
  go_region
  go_wp2_with fail
  go_region_with (go_at_call 137;refine (RA.out _ (by exact B.out.1)).mono ?_;rintro e w1 ⟨rfl,hw1⟩)
  all_goals
   subst hw1
   have G:=Lib.hid ((B.out.drewN (nq + 1 + 1)).set 0 (.int .i64 q))
   generalize World.setCell _ _ _ = W at G ⊢
   have q0 : W.cell? ⟨b,0,none⟩ = some (.int .i64 q):=at_whole G.out.1 0 rfl
   clear c0 c1 c3 e1 e2 e3 e4 d1 hmf RA
   by_cases hm : q = most
   ·have hb : (q == most) = true:=beq_iff_eq.2 hm
    obtain rfl : bb = false:=by rw [← HBB.out];exact decide_eq_false (fun h=>h hm)
    clear hm
    go_wp2
    go_returns
    exact ⟨⟨_,rfl⟩,G.out⟩
   ·have hb : (q == most) = false:=beq_eq_false_iff_ne.2 hm
    obtain rfl : bb = true:=by rw [← HBB.out];exact decide_eq_true hm
    clear hm
    go_wp2
    go_returns
    exact ⟨⟨_,rfl⟩,G.out⟩
theorem blocked_any (b : Nat) (s : Snd) (w : World) (h : SndAt w b s) (ok : s.Ok) (hr : -1 ≤ s.rep ∧ s.rep ≤ 9223372036854775807) :
  Calls Tryz.prog 132 #[ptr b] w fun e w'=>e = .returned (.tuple #[.int .i64 (if s.isBl then s.most else 0),.bool s.isBl]) ∧ Blk b s.bl.cells 161 w w':=by
 have A:=Lib.hid (fun wx (hx : SndAt wx b s)=>avail_any b s wx hx ok)
 obtain ⟨most,used,rep⟩:=s
 obtain ⟨h1,h2,h3⟩:=ok
 simp only at h1 h2 h3 hr
 unfold maxOff at h3
 have B:=Lib.hid (Blk.start h)
 have c0 : w.cell? ⟨b,0,none⟩ = some (.int .i64 most):=at_whole h 0 rfl
 have c2 : w.cell? ⟨b,2,none⟩ = some (.int .i64 rep):=at_whole h 2 rfl
 have z2:=frozen_whole h 2
 have e1 : IntKind.i64.wrap (most + 1) = most + 1:=IntWalk.i64_in _ (by omega)
 have A2 : Hid (∀ n,Calls Tryz.prog 30 #[.pointer (some ⟨b,0,none⟩)] (w.drewN n) fun e w'=>e = .returned (.int .i64 (most - used)) ∧ ∃ m,w' = w.drewN m):=Lib.hid (fun n=>(A.out (w.drewN n) (B.out.drewN n).1).mono fun e w' hh=>⟨hh.1,by obtain ⟨m,hm⟩:=hh.2;exact ⟨_,by rw [hm];exact World.drewN_drewN _ _ _⟩⟩)
 unfold ptr
 by_cases hav : 0 < most - used
 ·have hbl : Snd.isBl ⟨most,used,rep⟩ = false:=by simp [Snd.isBl,Snd.av];omega
  have hb2 : Snd.bl ⟨most,used,rep⟩ = ⟨most,used,rep⟩:=by simp [Snd.bl,hbl]
  rw [hbl,hb2]
  have d0 : (used < most) = True:=eq_true (by omega)
  clear h A hbl hb2 hav
  go_enter Tryz.func132,Tryz.ntmps132
  go_wp2_with fail
  go_quiet ((go_at_call 30;exact A2.out _))
  go_wp2
  go_returns
  exact ⟨rfl,B.out.drewN _⟩
 ·have d0 : (used < most) = False:=eq_false (by omega)
  by_cases hre : rep = most + 1
  ·have hbl : Snd.isBl ⟨most,used,rep⟩ = false:=by simp [Snd.isBl,hre]
   have hb2 : Snd.bl ⟨most,used,rep⟩ = ⟨most,used,rep⟩:=by simp [Snd.bl,hbl]
   rw [hbl,hb2]
   have d1 : (rep == most + 1) = true:=beq_iff_eq.2 hre
   clear h A hbl hb2 hav hre
   go_enter Tryz.func132,Tryz.ntmps132
   go_wp2_with fail
   go_quiet ((go_at_call 30;exact A2.out _))
   go_wp2
   go_returns
   exact ⟨rfl,B.out.drewN _⟩
  ·have hbl : Snd.isBl ⟨most,used,rep⟩ = true:=by simp [Snd.isBl,Snd.av,hre];omega
   have hb2 : Snd.bl ⟨most,used,rep⟩ = ⟨most,used,most + 1⟩:=by simp [Snd.bl,hbl]
   rw [hbl,hb2]
   have d1 : (rep == most + 1) = false:=beq_eq_false_iff_ne.2 hre
   clear h A hbl hb2 hav hre
   go_enter Tryz.func132,Tryz.ntmps132
   go_wp2_with fail
   go_quiet ((go_at_call 30;exact A2.out _))
   go_wp2
   go_returns
   exact ⟨rfl,(B.out.drewN _).set 2 _⟩
end
section
open Go.RowKit
theorem and_i64 (a b : Nat) (ha : a < 9223372036854775808) (hb : b < 9223372036854775808) : bits .and .i64 (a : Int) (b : Int) = ((a &&& b : Nat) : Int):=by
 have hx : a &&& b ≤ a:=Nat.and_le_left
 have h1 : (BitVec.ofInt 64 (a : Int)).toNat = a:=by
  rw [BitVec.ofInt_natCast,BitVec.toNat_ofNat];exact Nat.mod_eq_of_lt (by omega)
 have h2 : (BitVec.ofInt 64 (b : Int)).toNat = b:=by
  rw [BitVec.ofInt_natCast,BitVec.toNat_ofNat];exact Nat.mod_eq_of_lt (by omega)
 show IntKind.i64.wrap ((BitVec.ofInt 64 (a : Int) &&& BitVec.ofInt 64 (b : Int)).toNat : Int) = _
 rw [BitVec.toNat_and,h1,h2]
 exact IntWalk.i64_in _ (by omega)
theorem or_i64 (a b : Nat) (ha : a < 9223372036854775808) (hb : b < 9223372036854775808) : bits .or .i64 (a : Int) (b : Int) = ((a ||| b : Nat) : Int):=by
 have hx : a ||| b < 2 ^ 63:=Nat.or_lt_two_pow (by omega) (by omega)
 have h1 : (BitVec.ofInt 64 (a : Int)).toNat = a:=by
  rw [BitVec.ofInt_natCast,BitVec.toNat_ofNat];exact Nat.mod_eq_of_lt (by omega)
 have h2 : (BitVec.ofInt 64 (b : Int)).toNat = b:=by
  rw [BitVec.ofInt_natCast,BitVec.toNat_ofNat];exact Nat.mod_eq_of_lt (by omega)
 show IntKind.i64.wrap ((BitVec.ofInt 64 (a : Int) ||| BitVec.ofInt 64 (b : Int)).toNat : Int) = _
 rw [BitVec.toNat_or,h1,h2]
 exact IntWalk.i64_in _ (by omega)
theorem and1_i64 (a : Nat) (ha : a < 9223372036854775808) : bits .and .i64 (a : Int) 1 = ((a % 2 : Nat) : Int):=by
 have:=and_i64 a 1 ha (by decide)
 rw [show a &&& 1 = a % 2 from Nat.and_two_pow_sub_one_eq_mod a 1] at this
 exact this
theorem and3_i64 (a : Nat) (ha : a < 9223372036854775808) : bits .and .i64 (a : Int) 3 = ((a % 4 : Nat) : Int):=by
 have:=and_i64 a 3 ha (by decide)
 rw [show a &&& 3 = a % 4 from Nat.and_two_pow_sub_one_eq_mod a 2] at this
 exact this
theorem or4_i64 (a b : Nat) (hb : b < 4) (ha : a < 1152921504606846976) : bits .or .i64 (4 * (a : Int)) (b : Int) = ((4 * a + b : Nat) : Int):=by
 have:=or_i64 (4 * a) b (by omega) (by omega)
 rw [show 4 * a ||| b = 4 * a + b by rw [show 4 * a = a <<< 2 by rw [Nat.shiftLeft_eq];omega,← Nat.shiftLeft_add_eq_or_of_lt (i:=2) (by omega)]] at this
 rw [← this];rfl
theorem or1_i64 (a : Nat) (ha : a < 1152921504606846976) : bits .or .i64 (2 * (a : Int)) 1 = ((2 * a + 1 : Nat) : Int):=by
 have:=or_i64 (2 * a) 1 (by omega) (by omega)
 rw [show 2 * a ||| 1 = 2 * a + 1 by rw [show 2 * a = a <<< 1 by rw [Nat.shiftLeft_eq];omega,← Nat.shiftLeft_add_eq_or_of_lt (i:=1) (by omega)]] at this
 rw [← this];rfl
def isLoc (cl : Bool) (id : Nat) : Bool:=cl == (id % 2 == 0)
def kindN (id : Nat) : Nat:=id / 2 % 2
theorem kind_any (id : Nat) (hid : id < 9223372036854775808) (w : World) : Calls Tryz.prog 119 #[.int .i64 id] w fun e w'=>e = .returned (.int .i64 (kindN id : Int)) ∧ w = w':=by
 have b1 : bits .and .i64 ((id : Int) / 2) 1 = (kindN id : Int):=and1_i64 (id / 2) (by omega)
 go_enter Tryz.func119,Tryz.ntmps119
 go_wp2
 go_ret
 exact ⟨rfl,rfl⟩
theorem local_any (sb id : Nat) (cl : Bool) (hid : id < 9223372036854775808) (w : World) (c0 : w.cell? ⟨sb,0,none⟩ = some (.bool cl)) : Calls Tryz.prog 73 #[.pointer (some ⟨sb,0,none⟩),.int .i64 id] w fun e w'=>e = .returned (.bool (isLoc cl id)) ∧ w = w':=by
 have b1 : bits .and .i64 (id : Int) 1 = ((id % 2 : Nat) : Int):=and1_i64 id hid
 have b2 : ((id : Int) % 2 == 0) = (id % 2 == 0):=by rw [Bool.eq_iff_iff];simp;omega
 unfold isLoc
 generalize (id % 2 == 0) = bb at b2 ⊢
 go_enter Tryz.func73,Tryz.ntmps73
 go_wp2
 go_ret
 exact ⟨rfl,rfl⟩
def inR (n most : Int) : Bool:=decide (0 ≤ n) && decide (n ≤ most)
theorem inR_any (n most : Int) (w : World) : Calls Tryz.prog 118 #[.int .i64 n,.int .i64 most] w fun e w'=>e = .returned (.bool (inR n most)) ∧ w = w':=by
 unfold inR
 by_cases h : 0 ≤ n
 ·have d : decide (0 ≤ n) = true:=decide_eq_true h
  rw [d]
  clear d
  go_enter Tryz.func118,Tryz.ntmps118
  go_wp2
  go_ret
  exact ⟨by simp,rfl⟩
 ·have d : decide (0 ≤ n) = false:=decide_eq_false h
  rw [d]
  clear d
  go_enter Tryz.func118,Tryz.ntmps118
  go_wp2
  go_ret
  exact ⟨by simp,rfl⟩
end
end Go.Proofs.YthckbmcmdcemkaaGreatDoor.stm
