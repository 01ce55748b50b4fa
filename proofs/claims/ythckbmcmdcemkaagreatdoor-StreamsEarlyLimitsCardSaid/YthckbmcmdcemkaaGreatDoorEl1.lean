/- Texts of this claim, one behind the other: Wn Xa Xb Xd. -/
import Derived.Deep.MidRow
import Derived.Test.YthckbmcmdcemkaaGreatDoorBs26
import Derived.Test.YthckbmcmdcemkaaGreatDoorBs40
import Derived.Test.YthckbmcmdcemkaaGreatDoorBs38
import Derived.Test.YthckbmcmdcemkaaGreatDoorCa1
import Derived.Test.YthckbmcmdcemkaaGreatDoorCa2
import Derived.Test.YthckbmcmdcemkaaGreatDoorBs41
set_option maxRecDepth 100000
set_option maxHeartbeats 16000000
set_option linter.unusedSimpArgs false
set_option linter.unusedVariables false
namespace Go.Proofs.YthckbmcmdcemkaaGreatDoor.stm
section
open Go.RowKit Go.Maps
theorem Srv.stay {l : List Nat} {i : Nat} {s s' : SetP} {b b' : Bat} (h : Srv l i s b s' b') : (∀ x ∈ l,srv s x b = (s,b,false)) → s' = s ∧ b' = b:=by
 induction h with
 | stop l i s b h=>intro _;exact ⟨rfl,rfl⟩
 | go x t i s b s' b' h n ih=>
  intro hx
  rw [hx x (by simp)] at ih
  exact ih (fun y hy=>by
   rcases List.mem_append.mp hy with hy | hy
   ·exact hx y (by simp [hy])
   ·have : y = x:=by simpa using hy
    subst this;exact hx y (by simp))
theorem Mn.sub {W w : World} {a : SetA} {p : SetP} {R : List (Nat × Obj)} (h : Mn W w a p R) {R' : List (Nat × Obj)} (hs : ∀ x ∈ R',x ∈ R) : Mn W w a p R':=by
 obtain ⟨H,s,h1,h2,h3,h4⟩:=h
 exact ⟨H,s,h1,h2,h3,fun x hx=>h4 x (hs x hx)⟩
theorem size38l (f : Fr) : (Tryz.prog.info? 38).map (·.size) = some f.cells.toList.length:=frm.size38e
theorem wpList_load_fr {ops : Array Oper} {rest : List Oper} {o : Oper} {a : Act} {w : World} {Q : Exit → Act → World → Prop} (hgd : o.guard = none) (x : Operand) (ho : o.op = .load 38 x) (f : Fr)
  (g k : Nat) (hx : a.eval x = .pointer (some ⟨g,k,none⟩)) (hc : w.rangeAt g k f.cells.toList)
  (h : wpList Tryz.prog ops Q rest (a.put o.dst f.val) w) : wpList Tryz.prog ops Q (o :: rest) a w:=
 wpList_load_mid hgd 38 x ho g k hx f.cells.toList _ hc Tryz.underlying38 rfl (size38l f) (by rw [Array.toArray_toList];exact h)
theorem frs_range {fs : List Fr} {n : Nat} {f : Fr} (h : fs[n]? = some f) {w : World} {g : Nat} (hc : ∀ (k : Nat) u,(frs fs)[k]? = some u → w.cell? ⟨g,k,none⟩ = some u) : w.rangeAt g (n * 13) f.cells.toList:=by
 intro j v hv
 obtain ⟨hn,rfl⟩:=List.getElem?_eq_some_iff.mp h
 have hj : j < 13:=(List.getElem?_eq_some_iff.mp hv).1
 refine hc _ _ ?_
 rw [Nat.mul_comm,frs_get fs n hn j hj]
 simpa using hv
theorem FrRow.slice {v : Value} {fs : List Fr} {R : List (Nat × Obj)} (h : FrRow v fs R) : ∃ ka cap,v = .slice ka fs.length cap:=by
 rcases h with ⟨rfl,rfl,_⟩ | ⟨g,cap,cur,rfl,_⟩
 ·exact ⟨none,0,rfl⟩
 ·exact ⟨_,cap,rfl⟩
def PfOk (x : Pms) : Prop:=(1 ≤ x.data ∧ x.data ≤ 1000) ∧ (1 ≤ x.sdata ∧ x.sdata ≤ 500) ∧ (1 ≤ x.bidi ∧ x.bidi ≤ 4) ∧ (1 ≤ x.uni ∧ x.uni ≤ 4)
theorem one24 (a b c d e f : Int) : (#[Value.int .i64 a,.int .i64 b,.int .i64 c,.int .i64 d,.int .i64 e,.int .i64 f] : Array Value).all (·.oneCell') = true:=by simp [Value.oneCell']
theorem size24e : (Tryz.prog.info? 24).map (·.size) = some 6:=by kernel_rfl
def pfP (d s b u : Int) : Pms:=⟨1 + d.tmod 1000,1 + s.tmod 500,1 + b.tmod 4,1 + u.tmod 4,3,1000⟩
theorem pfP_rng {d s b u : Int} (hd : 0 ≤ d) (hs : 0 ≤ s) (hb : 0 ≤ b) (hu : 0 ≤ u) : (1 ≤ (pfP d s b u).data ∧ (pfP d s b u).data ≤ 1000) ∧ (1 ≤ (pfP d s b u).sdata ∧ (pfP d s b u).sdata ≤ 500) ∧ (1 ≤ (pfP d s b u).bidi ∧ (pfP d s b u).bidi ≤ 4) ∧ (1 ≤ (pfP d s b u).uni ∧ (pfP d s b u).uni ≤ 4):=by
 have h1:=Int.tmod_nonneg 1000 hd
 have h2:=Int.tmod_nonneg 500 hs
 have h3:=Int.tmod_nonneg 4 hb
 have h4:=Int.tmod_nonneg 4 hu
 have k1:=Int.tmod_lt_of_pos d (show (0 : Int) < 1000 by decide)
 have k2:=Int.tmod_lt_of_pos s (show (0 : Int) < 500 by decide)
 have k3:=Int.tmod_lt_of_pos b (show (0 : Int) < 4 by decide)
 have k4:=Int.tmod_lt_of_pos u (show (0 : Int) < 4 by decide)
 unfold pfP
 dsimp only
 omega
theorem paramsFrom_any (d s b u : Int) (hd : 0 ≤ d ∧ d ≤ 65535) (hs : 0 ≤ s ∧ s ≤ 65535) (hb : 0 ≤ b ∧ b ≤ 255) (hu : 0 ≤ u ∧ u ≤ 255) (w : World) :
  Calls Tryz.prog 22 #[.agg #[.int .u16 d,.int .u16 s,.int .u8 b,.int .u8 u]] w fun e w'=>e = .returned (.agg (pfP d s b u).cs) ∧ Below w.heap.size w w':=by
 have X:=Lib.hid (box2 w (.cells #[.int .u16 d,.int .u16 s,.int .u8 b,.int .u8 u] 42) (.cells #[.int .i64 0,.int .i64 0,.int .i64 0,.int .i64 0,.int .i64 0,.int .i64 0] 24))
 have wd : wrap64 d = d:=by unfold wrap64;omega
 have ws : wrap64 s = s:=by unfold wrap64;omega
 have wb : wrap64 b = b:=by unfold wrap64;omega
 have wu : wrap64 u = u:=by unfold wrap64;omega
 obtain ⟨⟨a1,a2⟩,⟨a3,a4⟩,⟨a5,a6⟩,a7,a8⟩:=pfP_rng hd.1 hs.1 hb.1 hu.1
 obtain ⟨P,hP⟩ : ∃ P,pfP d s b u = P:=⟨_,rfl⟩
 have e1 : 1 + d.tmod 1000 = P.data:=by rw [← hP];rfl
 have e2 : 1 + s.tmod 500 = P.sdata:=by rw [← hP];rfl
 have e3 : 1 + b.tmod 4 = P.bidi:=by rw [← hP];rfl
 have e4 : 1 + u.tmod 4 = P.uni:=by rw [← hP];rfl
 have e5 : P.ad = 3 ∧ P.idle = 1000:=by rw [← hP];exact ⟨rfl,rfl⟩
 have hcs : P.cs = #[.int .i64 P.data,.int .i64 P.sdata,.int .i64 P.bidi,.int .i64 P.uni,.int .i64 3,.int .i64 1000]:=by unfold Pms.cs;rw [e5.1,e5.2]
 rw [hP] at a1 a2 a3 a4 a5 a6 a7 a8 ⊢
 rw [hcs]
 clear hcs e5
 go_enter Tryz.func22,Tryz.ntmps22
 go_upto_region 1 with (fail)
 obtain ⟨X1,X2,X3,X4⟩:=X.out
 obtain ⟨c,hc⟩ : ∃ c,w.heap.size = c:=⟨_,rfl⟩
 have hne : c ≠ c + 1:=by omega
 rw [hc] at X1 X2 X3 X4 ⊢
 have XB:=Lib.hid X3
 have HC:=Lib.hid hc
 clear X X3 X4 hc
 generalize World.alloc _ _ = W at *
 have q0 : W.cell? ⟨c,0,none⟩ = some (.int .u16 d):=at_whole' X1 rfl
 have q1 : W.cell? ⟨c,1,none⟩ = some (.int .u16 s):=at_whole' X1 rfl
 have q2 : W.cell? ⟨c,2,none⟩ = some (.int .u8 b):=at_whole' X1 rfl
 have q3 : W.cell? ⟨c,3,none⟩ = some (.int .u8 u):=at_whole' X1 rfl
 have r0 : W.cell? ⟨c + 1,0,none⟩ = some (.int .i64 0):=at_whole' X2 rfl
 have f0:=frozen_whole X2
 have w1 : IntKind.i64.wrap (1 + d.tmod 1000) = P.data:=by rw [IntWalk.i64_in _ (by omega)];exact e1
 have w2 : IntKind.i64.wrap (1 + s.tmod 500) = P.sdata:=by rw [IntWalk.i64_in _ (by omega)];exact e2
 have w3 : IntKind.i64.wrap (1 + b.tmod 4) = P.bidi:=by rw [IntWalk.i64_in _ (by omega)];exact e3
 have w4 : IntKind.i64.wrap (1 + u.tmod 4) = P.uni:=by rw [IntWalk.i64_in _ (by omega)];exact e4
 have Y:=Lib.hid X2
 clear e1 e2 e3 e4 X1 X2 a1 a2 a3 a4 a5 a6 a7 a8 hP hd hs hb hu
 go_wp2_with (refine wpList_store_row rfl 24 _ _ rfl (c + 1) #[.int .i64 P.data,.int .i64 P.sdata,.int .i64 P.bidi,.int .i64 P.uni,.int .i64 3,.int .i64 1000] rfl rfl 24 _ Y.out size24e rfl (one24 _ _ _ _ _ _) ?_)
 refine bodyPost_ret (v:=.agg #[.int .i64 P.data,.int .i64 P.sdata,.int .i64 P.bidi,.int .i64 P.uni,.int .i64 3,.int .i64 1000]) (results_cell_row rfl _ _ (c + 1) 24 _ (0,0) _ rfl (setRow_heap _ _ _ _ 24 _ Y.out) Tryz.underlying24 rfl size24e) rfl ⟨rfl,?_⟩
 have hg : W.grownBy (W.setRow (c + 1) #[.int .i64 P.data,.int .i64 P.sdata,.int .i64 P.bidi,.int .i64 P.uni,.int .i64 3,.int .i64 1000]) (some (c + 1)):=⟨rfl,rfl,rfl,by simp,fun k _ hk=>setRow_other W (c + 1) k _ (fun e=>hk (by rw [e]))⟩
 have k1:=XB.out
 rw [← HC.out] at k1 hg ⊢
 exact below_grown k1 hg (by omega)
end
section
open Go.RowKit
def eO (S : List Int) (s : Nat) (m r : Int) : OutP:=⟨flW S s,⟨m,s,r⟩,if s = 0 then 0 else 1,false,0,false,[],-1⟩
def eX (sd : Nat) (S : List Int) (s : Nat) (m r : Int) : Strm:=⟨0,some (eO S s m r),some (newIn sd),false⟩
def lP (x q : Pms) (S : List Int) (s : Nat) (M c m r l0 l1 sv : Int) : SetP:=⟨true,x,q,[eX x.sdata.toNat S s m r],⟨1,0,l0,x.bidi,0,false,false,-1⟩,⟨0,0,l1,x.uni,0,false,false,-1⟩,⟨M,s,c⟩,⟨x.data,x.data,0,0⟩,0,false,sv⟩
def sumF : List Fr → Int
 | []=>0
 | g :: l=>(if g.ty = 8 then (g.s.size : Int) else 0) + sumF l
section
variable {x q : Pms} {S : List Int} {s : Nat} {M c m r l0 l1 sv : Int} {b : Bat}
theorem e_find : findS (lP x q S s M c m r l0 l1 sv) 0 = some (eX x.sdata.toNat S s m r):=rfl
theorem e_act : (eO S s m r).act = true:=by
 unfold eO OutP.act
 dsimp only
 split <;> rfl
theorem e_serve (hS : S.length = 2000) (hs : (s : Int) < min M m) (hc : min M m ≤ 500) (hb : 3000 ≤ b.lf) :
  ∃ (d : ByteArray) (t : Nat),(t : Int) = min M m ∧ (d.size : Int) = t - s ∧ szF (fStr 0 s d false) ≤ 507 ∧ srv (lP x q S s M c m r l0 l1 sv) 0 b = (lP x q S t M c m r l0 l1 0,⟨b.fs ++ [fStr 0 s d false],b.lf - szF (fStr 0 s d false)⟩,true):=by
 obtain ⟨t,ht⟩ : ∃ t : Nat,(t : Int) = min M m:=⟨(min M m).toNat,by omega⟩
 have hP : srvP ⟨M,s,c⟩ (eO S s m r) b = some (s,t):=by
  show (flW S s).nextP (min (b.lf - 20) 1024) (min (M - (s : Int)) (m - (s : Int))) = _
  rw [flw_next (by omega) _ _ (by omega),if_pos ⟨by omega,by omega⟩,hS]
  simp only [Option.some.injEq,Prod.mk.injEq,true_and]
  omega
 have hX : (eO S s m r).X.frame s t = flW S t:=flw_frame (by omega) (by omega)
 have hN : srvN (eO S s m r) (s,t) = (t : Int) - s:=by
  unfold srvN
  dsimp only
  rw [hX,flw_sent (by omega)]
  show ((t : Nat) : Int) - ((flW S s).sent : Nat) = _
  rw [flw_sent (by omega)]
 have hF : (eO S s m r).X.frameR s t = mkFr 8 s (strOfNums ((S.drop s).take (t - s))) false:=flw_frameR
 have hds : (strOfNums ((S.drop s).take (t - s))).size = t - s:=by rw [strOfNums_size,List.length_take,List.length_drop];omega
 have hO : srvO (eO S s m r) (s,t) = eO S t m r:=by
  unfold srvO
  rw [hN]
  dsimp only
  rw [hX,hF]
  unfold OutP.on eO
  dsimp only
  have e1 : onS (if s = 0 then 0 else 1) (if (mkFr 8 (s : Int) (strOfNums ((S.drop s).take (t - s))) false).fin = true then 2 else 1) = 1:=by
   show onS (if s = 0 then 0 else 1) 1 = 1
   split <;> decide
  rw [e1,if_neg (by omega : ¬ t = 0)]
  simp only [OutP.mk.injEq,Snd.mk.injEq,true_and,and_true]
  omega
 have hFr : srvF 0 (eO S s m r) (s,t) = fStr 0 s (strOfNums ((S.drop s).take (t - s))) false:=by
  unfold srvF
  dsimp only
  rw [hF]
  rfl
 obtain ⟨d,hd⟩ : ∃ d,strOfNums ((S.drop s).take (t - s)) = d:=⟨_,rfl⟩
 rw [hd] at hds hFr
 have hsz:=szF_str (id:=0) (off:=s) (d:=d) (fin:=false) ⟨by omega,by omega⟩ ⟨by omega,by omega⟩ (by omega)
 have hfit : b.fits (fStr 0 s d false) = true:=decide_eq_true (by omega)
 refine ⟨d,t,ht,by omega,by omega,?_⟩
 unfold srv
 rw [e_find]
 unfold srvX
 show (if ((eO S s m r).act && decide (32 ≤ b.lf)) = true then (match srvP ⟨M,s,c⟩ (eO S s m r) b with | none=>_ | some p=>_) else _) = _
 rw [e_act,decide_eq_true (by omega : 32 ≤ b.lf),show (true && true) = true from rfl,if_pos rfl,hP]
 dsimp only
 have e1 : updS (lP x q S s M c m r l0 l1 sv).ss (eX x.sdata.toNat S s m r).id { eX x.sdata.toNat S s m r with out:=some (srvO (eO S s m r) (s,t)) } = [eX x.sdata.toNat S t m r]:=by
  rw [hO];rfl
 rw [e1]
 have e2 : srvF ((eX x.sdata.toNat S s m r).id : Int) (eO S s m r) (s,t) = fStr 0 s d false:=hFr
 have e3 : b.add (fStr 0 s d false) = ⟨b.fs ++ [fStr 0 s d false],b.lf - szF (fStr 0 s d false)⟩:=by
  unfold Bat.add
  rw [if_pos hfit]
 rw [e2,e3,hfit,hN]
 have e4 : (s : Int) + ((t : Int) - s) = t:=by omega
 show ({ lP x q S s M c m r l0 l1 sv with ss:=[eX x.sdata.toNat S t m r],cr:=⟨M,(s : Int) + ((t : Int) - s),c⟩,srv:=0 },_,_) = _
 rw [e4]
 rfl
theorem e_idle (hS : S.length = 2000) (h2 : s ≤ 2000) (hs : min M m ≤ (s : Int)) (hb : 3000 ≤ b.lf) : srv (lP x q S s M c m r l0 l1 sv) 0 b = (lP x q S s M c m r l0 l1 sv,b,false):=by
 have hP : srvP ⟨M,s,c⟩ (eO S s m r) b = none:=by
  show (flW S s).nextP (min (b.lf - 20) 1024) (min (M - (s : Int)) (m - (s : Int))) = _
  rw [flw_next (by omega) _ _ (by omega),if_neg (by omega)]
 unfold srv
 rw [e_find]
 unfold srvX
 show (if ((eO S s m r).act && decide (32 ≤ b.lf)) = true then (match srvP ⟨M,s,c⟩ (eO S s m r) b with | none=>_ | some p=>_) else _) = _
 rw [hP]
 split <;> rfl
theorem e_cyc (c' r' : Int) : cycF ((lP x q S s M c' m r' l0 l1 sv).ss.map (·.id)) (lP x q S s M c' m r' l0 l1 sv).srv = [0]:=by
 show cycF [0] sv = [0]
 unfold cycF
 by_cases h : (((0 : Nat) : Int) ≤ sv)
 ·have e : decide (((0 : Nat) : Int) ≤ sv) = true:=decide_eq_true h
  simp only [List.dropWhile,List.takeWhile,e]
  rfl
 ·have e : decide (((0 : Nat) : Int) ≤ sv) = false:=decide_eq_false h
  simp only [List.dropWhile,List.takeWhile,e]
  rfl
theorem e_none {p' : SetP} {b' : Bat} (hS : S.length = 2000) (h2 : s ≤ 2000) (hs : min M m ≤ (s : Int)) (hb : 3000 ≤ b.lf) (h : Srv [0] 0 (lP x q S s M c m r l0 l1 sv) b p' b') : p' = lP x q S s M c m r l0 l1 sv ∧ b' = b:=
 h.stay fun y hy=>by
  obtain rfl:=List.mem_singleton.mp hy
  exact e_idle hS h2 hs hb
theorem e_some {p' : SetP} {b' : Bat} (hS : S.length = 2000) (hs : (s : Int) < min M m) (hc : min M m ≤ 500) (hb : 3600 ≤ b.lf) (h : Srv [0] 0 (lP x q S s M c m r l0 l1 sv) b p' b') :
  ∃ (d : ByteArray) (t : Nat),(t : Int) = min M m ∧ (d.size : Int) = t - s ∧ p' = lP x q S t M c m r l0 l1 0 ∧ b'.fs = b.fs ++ [fStr 0 s d false]:=by
 obtain ⟨d,t,h1,h2,h3,h4⟩:=e_serve (x:=x) (q:=q) (c:=c) (r:=r) (l0:=l0) (l1:=l1) (sv:=sv) hS hs hc (show 3000 ≤ b.lf by omega)
 refine ⟨d,t,h1,h2,?_⟩
 cases h with
 | stop _ _ _ _ h=>simp at h
 | go _ _ _ _ _ _ _ h n=>
  rw [h4] at n
  have:=e_none hS (by omega) (by omega) (by show 3000 ≤ b.lf - szF (fStr 0 s d false);omega) n
  exact ⟨this.1,by rw [this.2]⟩
theorem szF_dbl (n : Int) : szF (fDBl n) ≤ 9:=by
 have e : szF (fDBl n) = ((strOfNums [frm.headB (fDBl n)] ++ strOfNums (frm.encV n)).size : Nat):=rfl
 rw [e]
 simp only [ByteArray.size_append,strOfNums_size,List.length_singleton]
 have:=frm.encV_len n
 omega
theorem szF_sdbl (i n : Int) : szF (fSDBl i n) ≤ 17:=by
 have e : szF (fSDBl i n) = (((strOfNums [frm.headB (fSDBl i n)] ++ strOfNums (frm.encV i)) ++ strOfNums (frm.encV n)).size : Nat):=rfl
 rw [e]
 simp only [ByteArray.size_append,strOfNums_size,List.length_singleton]
 have:=frm.encV_len n
 have:=frm.encV_len i
 omega
theorem add_lf (b : Bat) (g : Fr) (k : Int) (h : szF g ≤ k) (hk : 0 ≤ k) : b.lf - k ≤ (b.add g).lf:=by
 unfold Bat.add
 split
 ·show b.lf - k ≤ b.lf - szF g;omega
 ·omega
theorem add_fs (b : Bat) (g : Fr) : ∀ f ∈ (b.add g).fs,f ∈ b.fs ∨ f = g:=by
 intro f hf
 unfold Bat.add at hf
 split at hf
 ·have : f ∈ b.fs ++ [g]:=hf
  simpa using this
 ·exact .inl hf
theorem e_bl : ∃ c' r' b',blP (lP x q S s M c m r l0 l1 sv) ⟨[],4000⟩ = (lP x q S s M c' m r' l0 l1 sv,b') ∧ 3900 ≤ b'.lf ∧ (∀ g ∈ b'.fs,g.ty ≠ 8) ∧ (c' = c ∨ c' = M + 1) ∧ (r' = r ∨ r' = m + 1):=by
 have k2 : ∃ c' b',bl2 (lP x q S s M c m r l0 l1 sv) ⟨[],4000⟩ = (lP x q S s M c' m r l0 l1 sv,b') ∧ 3950 ≤ b'.lf ∧ (∀ g ∈ b'.fs,g.ty ≠ 8) ∧ (c' = c ∨ c' = M + 1):=by
  unfold bl2
  split
  ·have e : ∃ c',(lP x q S s M c m r l0 l1 sv).cr.bl = ⟨M,s,c'⟩ ∧ (c' = c ∨ c' = M + 1):=by
    unfold Snd.bl
    split
    ·exact ⟨_,rfl,.inr rfl⟩
    ·exact ⟨_,rfl,.inl rfl⟩
   obtain ⟨c',e,hc'⟩:=e
   rw [e]
   refine ⟨c',_,rfl,?_,?_,hc'⟩
   ·split
    ·have:=add_lf ⟨[],4000⟩ _ 9 (szF_dbl M) (by decide)
     show 3950 ≤ (Bat.add ⟨[],4000⟩ (fDBl M)).lf
     have e2 : (⟨[],4000⟩ : Bat).lf = 4000:=rfl
     omega
    ·decide
   ·split
    ·intro g hg
     rcases add_fs _ _ g hg with h | h
     ·cases h
     ·subst h;show (20 : Int) ≠ 8;decide
    ·intro g hg;cases hg
  ·exact ⟨c,_,rfl,by decide,(fun g hg=>by cases hg),.inl rfl⟩
 obtain ⟨c',b1,e2,h1,h2,hc'⟩:=k2
 have k3 : ∃ r' b',blL (lP x q S s M c' m r l0 l1 sv).ss b1 = ([eX x.sdata.toNat S s m r'],b') ∧ 3900 ≤ b'.lf ∧ (∀ g ∈ b'.fs,g.ty ≠ 8) ∧ (r' = r ∨ r' = m + 1):=by
  show ∃ r' b',blL [eX x.sdata.toNat S s m r] b1 = ([eX x.sdata.toNat S s m r'],b') ∧ _
  unfold blL
  have e : ∃ r' b',blX (eX x.sdata.toNat S s m r) b1 = (eX x.sdata.toNat S s m r',b') ∧ 3900 ≤ b'.lf ∧ (∀ g ∈ b'.fs,g.ty ≠ 8) ∧ (r' = r ∨ r' = m + 1):=by
   unfold blX
   show ∃ r' b',(if (eO S s m r).wait = true then _ else _) = _ ∧ _
   split
   ·have e : ∃ r',(eO S s m r).cr.bl = ⟨m,s,r'⟩ ∧ (r' = r ∨ r' = m + 1):=by
     unfold Snd.bl
     split
     ·exact ⟨_,rfl,.inr rfl⟩
     ·exact ⟨_,rfl,.inl rfl⟩
    obtain ⟨r',e,hr'⟩:=e
    rw [e]
    refine ⟨r',_,rfl,?_,?_,hr'⟩
    ·split
     ·have:=add_lf b1 _ 17 (szF_sdbl ((eX x.sdata.toNat S s m r).id : Int) (eO S s m r).cr.most) (by decide)
      omega
     ·omega
    ·split
     ·intro g hg
      rcases add_fs _ _ g hg with h | h
      ·exact h2 g h
      ·subst h;show (21 : Int) ≠ 8;decide
     ·exact h2
   ·exact ⟨r,_,rfl,by omega,h2,.inl rfl⟩
  obtain ⟨r',b',e3,h3,h4,h5⟩:=e
  rw [e3]
  exact ⟨r',b',rfl,h3,h4,h5⟩
 obtain ⟨r',b2,e3,h3,h4,hr'⟩:=k3
 refine ⟨c',r',b2,?_,h3,h4,hc',hr'⟩
 unfold blP
 dsimp only
 rw [show bl0 (lP x q S s M c m r l0 l1 sv) ⟨[],4000⟩ = (lP x q S s M c m r l0 l1 sv,⟨[],4000⟩) from rfl]
 dsimp only
 rw [show bl1 (lP x q S s M c m r l0 l1 sv) ⟨[],4000⟩ = (lP x q S s M c m r l0 l1 sv,⟨[],4000⟩) from rfl]
 dsimp only
 rw [e2]
 dsimp only
 rw [e3]
 rfl
theorem sumF_none : ∀ l : List Fr,(∀ g ∈ l,g.ty ≠ 8) → sumF l = 0
 | [],_=>rfl
 | g :: l,h=>by
  unfold sumF
  rw [if_neg (h g (by simp)),sumF_none l (fun k hk=>h k (by simp [hk]))];rfl
theorem sumF_app : ∀ l k : List Fr,sumF (l ++ k) = sumF l + sumF k
 | [],k=>by show sumF k = 0 + sumF k;omega
 | g :: l,k=>by
  show (if g.ty = 8 then (g.s.size : Int) else 0) + sumF (l ++ k) = (if g.ty = 8 then (g.s.size : Int) else 0) + sumF l + sumF k
  rw [sumF_app l k];omega
theorem e_frames {p' : SetP} {fs : List Fr} (hx : PfOk x) (hS : S.length = 2000) (hs : (s : Int) ≤ min M m) (hc : min M m ≤ 500) (h : FramesP (lP x q S s M c m r l0 l1 sv) 4000 p' fs) :
  sumF fs = min M m - s ∧ ∃ t : Nat,(t : Int) = min M m ∧ ((s : Int) < min M m → ∃ c' r',(c' = c ∨ c' = M + 1) ∧ (r' = r ∨ r' = m + 1) ∧ p' = lP x q S t M c' m r' l0 l1 0):=by
 obtain ⟨⟨x1,x2⟩,⟨x3,x4⟩,_⟩:=hx
 have hq : ∀ y ∈ (lP x q S s M c m r l0 l1 sv).ss,∀ i,y.inp = some i → Qi i:=fun y hy i hi=>by
  obtain rfl:=List.mem_singleton.mp hy
  injection hi with hi
  subst hi
  refine ⟨rfl,rfl,?_⟩
  show decide ((x.sdata.toNat : Int) - 0 ≤ (x.sdata.toNat : Int) / 2) = false
  exact decide_eq_false (by omega)
 unfold FramesP at h
 rw [cl_quiet (by show decide (x.data - 0 ≤ x.data / 2) = false;exact decide_eq_false (by omega)) rfl rfl rfl,if_pos rfl] at h
 dsimp only at h
 rw [ctlL_quiet _ _ (fun y hy o ho=>by
  obtain rfl:=List.mem_singleton.mp hy
  injection ho with ho
  subst ho;rfl) hq,if_pos rfl] at h
 dsimp only at h
 obtain ⟨k,hk,b',hb,rfl⟩:=h
 obtain ⟨c',r',b1,e1,h1,h2,hc',hr'⟩:=e_bl (x:=x) (q:=q) (S:=S) (s:=s) (M:=M) (c:=c) (m:=m) (r:=r) (l0:=l0) (l1:=l1) (sv:=sv)
 have hk' : k = (lP x q S s M c' m r' l0 l1 sv,b1):=hk.trans e1
 subst hk'
 dsimp only at hb
 rw [e_cyc] at hb
 by_cases hlt : (s : Int) < min M m
 ·obtain ⟨d,t,t1,t2,rfl,t4⟩:=e_some hS hlt hc (by omega) hb
  refine ⟨?_,t,t1,fun _=>⟨_,_,hc',hr',rfl⟩⟩
  rw [t4,sumF_app,sumF_none _ h2]
  show 0 + ((d.size : Int) + 0) = _
  omega
 ·obtain ⟨_,rfl⟩:=e_none hS (by omega) (by omega) (by omega) hb
  exact ⟨by rw [sumF_none _ h2];omega,s,by omega,fun h=>absurd h hlt⟩
theorem e_good (hx : PfOk x) (hS : S.length = 2000) (hM : (s : Int) ≤ M) (hm : (s : Int) ≤ m) (hM2 : M ≤ 1000) (hm2 : m ≤ 1000) (hc : -1 ≤ c ∧ c ≤ 5000) (hr : -1 ≤ r ∧ r ≤ 5000) (hl0 : 0 ≤ l0 ∧ l0 ≤ 64) (hl1 : 0 ≤ l1 ∧ l1 ≤ 64) : FGood (lP x q S s M c m r l0 l1 sv):=by
 obtain ⟨⟨x1,x2⟩,⟨x3,x4⟩,⟨x5,x6⟩,x7,x8⟩:=hx
 refine ⟨fun e he=>?_,?_,?_,?_,?_,?_,?_,?_⟩
 ·obtain rfl:=List.mem_singleton.mp he
  refine ⟨fun o ho=>?_,fun i hi=>?_⟩
  ·injection ho with ho
   subst ho
   refine ⟨(by show (0 : Int) ≤ 0 ∧ (0 : Int) ≤ 1073741823;decide),⟨by show (0 : Int) ≤ (s : Int);omega,hm,by show m ≤ maxOff;unfold maxOff;omega⟩,⟨hr.1,by show r ≤ _;omega⟩,?_⟩
   show ((flW S s).sent : Int) ≤ s
   rw [flw_sent (by omega)];omega
  ·injection hi with hi
   subst hi
   show (0 : Int) ≤ 0 ∧ (0 : Int) ≤ 1073741823
   decide
 ·show (0 : Int) ≤ 1 ∧ (1 : Int) ≤ 1000000000 ∧ (0 : Int) ≤ 0 ∧ (0 : Int) ≤ 1000000000 ∧ 0 ≤ x.bidi ∧ x.bidi ≤ 1000000000 ∧ (0 : Int) ≤ 0 ∧ (0 : Int) ≤ 1000000000
  omega
 ·show (0 : Int) ≤ 0 ∧ (0 : Int) ≤ 1000000000 ∧ (0 : Int) ≤ 0 ∧ (0 : Int) ≤ 1000000000 ∧ 0 ≤ x.uni ∧ x.uni ≤ 1000000000 ∧ (0 : Int) ≤ 0 ∧ (0 : Int) ≤ 1000000000
  omega
 ·show 0 ≤ l0 ∧ l0 ≤ _;omega
 ·show 0 ≤ l1 ∧ l1 ≤ _;omega
 ·exact ⟨by show (0 : Int) ≤ (s : Int);omega,hM,by show M ≤ maxOff;unfold maxOff;omega⟩
 ·exact ⟨hc.1,by show c ≤ _;omega⟩
 ·show 1 ≤ 5000;decide
end
end
section
open Go.RowKit Go.Maps
section
variable {W w : World} {a : SetA} {R : List (Nat × Obj)} {x : Pms}
def eN (x : Pms) : SetP:=⟨true,x,x,[⟨0,some (newOut x.sdata),some (newIn x.sdata.toNat),false⟩],⟨1,0,x.bidi,x.bidi,0,false,false,-1⟩,⟨0,0,x.uni,x.uni,0,false,false,-1⟩,⟨x.data,0,0⟩,⟨x.data,x.data,0,0⟩,0,false,-1⟩
theorem e_new {w0 : World} (hb : Below W.heap.size W w0) (hx : PfOk x) : Calls Tryz.prog 17 #[.bool true,.agg x.cs,.agg x.cs] w0 fun e w'=>∃ a : SetA,e = .returned (.tuple #[.pointer (some ⟨a.sb,0,none⟩),.int .i64 0]) ∧ Mn W w' a (newP true x x) []:=by
 obtain ⟨⟨x1,x2⟩,⟨x3,x4⟩,⟨x5,x6⟩,x7,x8⟩:=hx
 have hk : pmOk x = true:=by
  unfold pmOk inR
  simp only [Bool.and_eq_true,decide_eq_true_eq]
  omega
 exact mn_new hb true x x hk hk (by omega)
theorem e_open (hx : PfOk x) (h : Mn W w a (newP true x x) R) : Calls Tryz.prog 18 #[ptr a.sb,.bool false] w fun e w'=>e = .returned (.tuple #[.int .i64 0,.int .i64 0]) ∧ Mn W w' a (eN x) R:=by
 obtain ⟨⟨x1,x2⟩,⟨x3,x4⟩,⟨x5,x6⟩,x7,x8⟩:=hx
 exact mn_open0c h (by show (0 : Int) < x.bidi;omega) 0 rfl (by decide) rfl (by show 0 ≤ x.sdata;omega) (by show x.sdata ≤ _;omega) x.sdata.toNat (by show x.sdata = _;omega) (by omega) (fun e he=>by cases he) (by show 0 ≤ _;decide)
theorem e_write {d : ByteArray} (hd : d.size = 2000) (h : Mn W w a (eN x) R) : Calls Tryz.prog 19 #[ptr a.sb,.int .i64 0,.string d] w fun e w'=>e = .returned (.tuple #[.int .i64 2000,.int .i64 0]) ∧ Mn W w' a (lP x x (bytesOf d) 0 x.data 0 x.sdata 0 x.bidi x.uni (-1)) R:=by
 obtain ⟨k1,k2⟩:=flw_start (d:=d) (by omega)
 refine (mn_write h (q1:=[]) (x:=⟨0,some (newOut x.sdata),some (newIn x.sdata.toNat),false⟩) (q2:=[]) rfl d (by rw [hd];decide) (fun o ho=>?_)).mono fun e w' hh=>?_
 ·injection ho with ho
  subst ho
  show 0 + (newX 8192).writeN d ≤ _
  rw [k2,hd];decide
 ·obtain ⟨h1,h2⟩:=hh
  have e1 : wrS ⟨0,some (newOut x.sdata),some (newIn x.sdata.toNat),false⟩ d = eX x.sdata.toNat (bytesOf d) 0 x.sdata 0:=by
   show (⟨0,some { newOut x.sdata with X:=(newX 8192).write d },some (newIn x.sdata.toNat),false⟩ : Strm) = _
   rw [k1];rfl
  have e2 : wrN ⟨0,some (newOut x.sdata),some (newIn x.sdata.toNat),false⟩ d = 2000:=by
   show (newX 8192).writeN d = 2000
   rw [k2,hd]
  rw [e2] at h1
  rw [e1] at h2
  exact ⟨h1,h2⟩
theorem e_call {q : Pms} {S : List Int} {s : Nat} {M m l0 l1 sv c r : Int} (hx : PfOk x) (hS : S.length = 2000) (hM : (s : Int) ≤ M) (hm : (s : Int) ≤ m) (hM2 : M ≤ 1000) (hm2 : m ≤ 500) (hc : -1 ≤ c ∧ c ≤ 5000) (hr : -1 ≤ r ∧ r ≤ 5000) (hl0 : 0 ≤ l0 ∧ l0 ≤ 64) (hl1 : 0 ≤ l1 ∧ l1 ≤ 64) (h : Mn W w a (lP x q S s M c m r l0 l1 sv) R) :
  Calls Tryz.prog 21 #[ptr a.sb,.int .i64 4000] w fun e w'=>∃ v fs p' R',e = .returned v ∧ fs.length ≤ 80000 ∧ FrRow v fs R' ∧ Mn W w' a p' (R' ++ R) ∧ sumF fs = min M m - s ∧ ∃ t : Nat,(t : Int) = min M m ∧ ((s : Int) < min M m → ∃ c' r',(c' = c ∨ c' = M + 1) ∧ (r' = r ∨ r' = m + 1) ∧ p' = lP x q S t M c' m r' l0 l1 0):=by
 refine (mn_frames h (e_good hx hS hM hm hM2 (by omega) hc hr hl0 hl1) 4000 (by decide) (by decide)).mono fun e w' hh=>?_
 obtain ⟨v,fs,p',R',he,h1,_,h3,h4,h5⟩:=hh
 obtain ⟨k1,k2⟩:=e_frames hx hS (by omega) (by omega) h1
 exact ⟨v,fs,p',R',he,h3,h4,h5,k1,k2⟩
end
end
section
open Go.RowKit
theorem sumF_nn : ∀ l : List Fr,0 ≤ sumF l
 | []=>Int.le_refl _
 | g :: l=>by
  have:=sumF_nn l
  unfold sumF
  split <;> omega
theorem sumF_take {fs : List Fr} {k : Nat} {g : Fr} (h : fs[k]? = some g) : sumF (fs.take (k + 1)) = sumF (fs.take k) + (if g.ty = 8 then (g.s.size : Int) else 0):=by
 rw [List.take_add_one,h,sumF_app]
 show sumF (fs.take k) + ((if g.ty = 8 then (g.s.size : Int) else 0) + 0) = _
 omega
theorem sumF_take_le (fs : List Fr) (k : Nat) : sumF (fs.take k) ≤ sumF fs:=by
 have h:=sumF_app (fs.take k) (fs.drop k)
 rw [List.take_append_drop] at h
 have:=sumF_nn (fs.drop k)
 omega
theorem sum_any {v : Value} {fs : List Fr} {R : List (Nat × Obj)} (h : FrRow v fs R) (hl : fs.length ≤ 80000) (hs : sumF fs ≤ 1000000) {w : World} (hw : ∀ y ∈ R,w.heap[y.1]? = some y.2) :
  Calls Tryz.prog 27 #[v] w fun e w'=>e = .returned (.int .i64 (sumF fs)) ∧ Below w.heap.size w w':=by
 obtain ⟨ka,cap,ev⟩:=h.slice
 subst ev
 obtain ⟨n,hn⟩ : ∃ n,fs.length = n:=⟨_,rfl⟩
 have HF:=Lib.hid (And.intro h (And.intro hw (And.intro hs (And.intro hl hn))))
 rw [hn]
 clear h hw hs hl hn
 go_enter Tryz.func27,Tryz.ntmps27
 go_wp2
 go_loopw [3,4] (fun t i wr=>∃ k : Nat,k ≤ n ∧ i = .int .i64 k ∧ t = .int .i64 (sumF (fs.take k)) ∧ Hid (Below w.heap.size w wr)) (fun _ i _=>n - (intOf i).toNat)
 case atStart=>exact ⟨0,Nat.zero_le _,rfl,rfl,Lib.hid bz0⟩
 case round=>
  obtain ⟨k,hk,rfl,rfl,HB⟩:=hrel
  by_cases hlt : k < n
  ·have hkl : k < fs.length:=by have:=HF.out.2.2.2.2;omega
   obtain ⟨g,fcap,o,ef,eR,hcell⟩:=HF.out.1.cell (by omega)
   simp only [Value.slice.injEq] at ef
   obtain ⟨rfl,_,rfl⟩:=ef
   subst eR
   have fg : fs[k]? = some fs[k]:=List.getElem?_eq_getElem hkl
   obtain ⟨fr,hfr⟩ : ∃ fr,fs[k] = fr:=⟨_,rfl⟩
   rw [hfr] at fg
   have hyo:=heap_below HB.out (HF.out.2.1 (g,o) (by simp))
   have RG:=frs_range fg (hcell wr hyo)
   have c0 : wr.cell? ⟨g,k * 13,none⟩ = some (.int .i64 fr.ty):=RG 0 _ rfl
   have c3 : wr.cell? ⟨g,k * 13 + 3,none⟩ = some (.string fr.s):=RG 3 _ rfl
   have hS:=sumF_take fg
   have hT:=sumF_take_le fs (k + 1)
   have h0:=sumF_nn (fs.take k)
   obtain ⟨S,hSS⟩ : ∃ S,sumF (fs.take k) = S:=⟨_,rfl⟩
   rw [hSS] at hS h0 ⊢
   have wk : IntKind.i64.wrap ((k : Int) + 1) = ((k + 1 : Nat) : Int):=by rw [IntWalk.i64_in _ (by have:=HF.out.2.2.2;omega)];omega
   have hkn : (k : Int) < n:=by omega
   by_cases hty : fr.ty = 8
   ·rw [if_pos hty] at hS
    have ws : IntKind.i64.wrap (S + (fr.s.size : Int)) = S + fr.s.size:=by rw [IntWalk.i64_in _ (by have:=HF.out.2.2.1;omega)]
    have ht : (fr.ty == 8) = true:=by rw [hty];rfl
    have HS:=Lib.hid hS
    clear hS hT h0 RG hcell hyo fg hfr hkl hSS
    go_upto_region 7 with (fail)
    refine ⟨⟨k + 1,by omega,by go_num,?_,HB⟩,by simp [intOf];omega⟩
    rw [HS.out]
   ·rw [if_neg hty] at hS
    have ht : (fr.ty == 8) = false:=beq_eq_false_iff_ne.2 hty
    have HS:=Lib.hid hS
    clear hS hT h0 RG hcell hyo fg hfr hkl hSS
    go_upto_region 7 with (fail)
    refine ⟨⟨k + 1,by omega,by go_num,?_,HB⟩,by simp [intOf];omega⟩
    rw [HS.out]
    simp
  ·obtain rfl : k = n:=by omega
   have e : fs.take k = fs:=List.take_of_length_le (by have:=HF.out.2.2.2.2;omega)
   have HE:=Lib.hid e
   clear e
   go_wp2
   go_ret
   exact ⟨by rw [HE.out];rfl,HB.out⟩
end
end Go.Proofs.YthckbmcmdcemkaaGreatDoor.stm
