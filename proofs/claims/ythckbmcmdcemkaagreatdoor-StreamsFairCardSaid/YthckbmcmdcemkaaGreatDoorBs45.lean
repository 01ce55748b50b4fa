/- Texts of this claim, one behind the other: Wb Wc FairEnd. -/
import Derived.Test.YthckbmcmdcemkaaGreatDoorBs44
import Derived.Test.YthckbmcmdcemkaaGreatDoorBs41
import Derived.Test.YthckbmcmdcemkaaGreatDoorBs42
import Derived.OpenShut
set_option maxRecDepth 100000
set_option maxHeartbeats 16000000
set_option linter.unusedSimpArgs false
set_option linter.unusedVariables false
namespace Go.Proofs.YthckbmcmdcemkaaGreatDoor.stm
section
open Go.RowKit
def bP : Pms:=⟨1048576,8192,8,8,0,0⟩
abbrev FD:=Nat → ByteArray
theorem fD_len {D : FD} (hD : ∀ j,(D j).size = 8000) (j : Nat) : (bytesOf (D j)).length = 8000:=by rw [bytesOf_length,hD]
def fo (D : FD) (j s : Nat) : OutP:=⟨flW (bytesOf (D j)) s,⟨8192,s,0⟩,if s = 0 then 0 else 1,false,0,false,[],-1⟩
def fx (D : FD) (j s : Nat) : Strm:=⟨2 * j,some (fo D j s),if j % 2 = 0 then some (newIn 8192) else none,false⟩
def f0 : SetP:=newP true bP bP
def fP (D : FD) (n : Nat) (sn : Nat → Nat) (u sv : Int) : SetP:={ f0 with ss:=(List.range n).map (fun j=>fx D j (sn j)),g0:={ f0.g0 with opn:=((n + 1) / 2 : Nat) },g1:={ f0.g1 with opn:=(n / 2 : Nat) },cr:=⟨1048576,u,0⟩,srv:=sv }
def nx (j : Nat) : Strm:=newStrm true 8192 8192 (2 * j)
def fPo (D : FD) (j : Nat) : SetP:={ fP D j (fun _=>0) 0 (-1) with ss:=(List.range j).map (fun j=>fx D j 0) ++ nx j :: [],g0:={ f0.g0 with opn:=((j + 2) / 2 : Nat) },g1:={ f0.g1 with opn:=((j + 1) / 2 : Nat) } }
section
variable {W w w' : World} {a : SetA} {R : List (Nat × Obj)} {D : FD}
theorem fP_ins (j : Nat) : insP (nx j) (fP D j (fun _=>0) 0 (-1)).ss = (List.range j).map (fun j=>fx D j 0) ++ nx j :: []:=by
 have:=insP_split (nx j) ((List.range j).map (fun j=>fx D j 0)) [] (fun e he=>by
  obtain ⟨i,hi,rfl⟩:=List.mem_map.mp he
  have:=List.mem_range.mp hi
  show ¬ 2 * j < 2 * i
  omega) (fun e he=>by cases he)
 rw [List.append_nil] at this
 exact this
theorem fP_ids (j : Nat) : ∀ e ∈ (fP D j (fun _=>0) 0 (-1)).ss,e.id ≠ 2 * j:=fun e he=>by
 obtain ⟨i,hi,rfl⟩:=List.mem_map.mp (show e ∈ (List.range j).map (fun j=>fx D j 0) from he)
 have:=List.mem_range.mp hi
 show 2 * i ≠ 2 * j
 omega
theorem fair_open0 (j m : Nat) (hj : j = 2 * m) (h4 : j < 4) (h : Mn W w a (fP D j (fun _=>0) 0 (-1)) R) : Calls Tryz.prog 18 #[ptr a.sb,.bool false] w fun e w'=>e = .returned (.tuple #[.int .i64 ((2 * j : Nat) : Int),.int .i64 0]) ∧ Mn W w' a (fPo D j) R:=by
 have e0 : 4 * m + 0 = 2 * j:=by omega
 have hi:=fP_ids (D:=D) j
 have hn:=fP_ins (D:=D) j
 rw [← e0] at hi ⊢
 refine (mn_open0c h (by show (((j + 1) / 2 : Nat) : Int) < 8;omega) m (by show (((j + 1) / 2 : Nat) : Int) = m;omega) (by omega) rfl (by show (0 : Int) ≤ 8192;decide) (by show (8192 : Int) ≤ 1073741824;decide) 8192 rfl (by decide) hi (by show ((List.range j).map (fun j=>fx D j 0)).length ≤ _;simp;omega)).mono fun e w' hh=>⟨hh.1,?_⟩
 have h2:=hh.2
 have e1 : newStrm (fP D j (fun _=>0) 0 (-1)).cl (fP D j (fun _=>0) 0 (-1)).peer.sdata 8192 (4 * m + 0) = nx j:=by rw [e0];rfl
 rw [e1,hn] at h2
 have e2 : incG (fP D j (fun _=>0) 0 (-1)).g0 = { f0.g0 with opn:=((j + 2) / 2 : Nat) }:=by
  show ({ f0.g0 with opn:=(((j + 1) / 2 : Nat) : Int) + 1 } : Grp) = _
  rw [show (((j + 1) / 2 : Nat) : Int) + 1 = ((j + 2) / 2 : Nat) from by omega]
 have e3 : (fP D j (fun _=>0) 0 (-1)).g1 = { f0.g1 with opn:=((j + 1) / 2 : Nat) }:=by
  show ({ f0.g1 with opn:=((j / 2 : Nat) : Int) } : Grp) = _
  rw [show ((j / 2 : Nat) : Int) = ((j + 1) / 2 : Nat) from by omega]
 rw [e2,e3] at h2
 exact h2
theorem fair_open1 (j m : Nat) (hj : j = 2 * m + 1) (h4 : j < 4) (h : Mn W w a (fP D j (fun _=>0) 0 (-1)) R) : Calls Tryz.prog 18 #[ptr a.sb,.bool true] w fun e w'=>e = .returned (.tuple #[.int .i64 ((2 * j : Nat) : Int),.int .i64 0]) ∧ Mn W w' a (fPo D j) R:=by
 have e0 : 4 * m + 2 = 2 * j:=by omega
 have hi:=fP_ids (D:=D) j
 have hn:=fP_ins (D:=D) j
 rw [← e0] at hi ⊢
 refine (mn_open1c h (by show ((j / 2 : Nat) : Int) < 8;omega) m (by show ((j / 2 : Nat) : Int) = m;omega) (by omega) rfl (by show (0 : Int) ≤ 8192;decide) (by show (8192 : Int) ≤ 1073741824;decide) 8192 rfl (by decide) hi (by show ((List.range j).map (fun j=>fx D j 0)).length ≤ _;simp;omega)).mono fun e w' hh=>⟨hh.1,?_⟩
 have h2:=hh.2
 have e1 : newStrm (fP D j (fun _=>0) 0 (-1)).cl (fP D j (fun _=>0) 0 (-1)).peer.sdata 8192 (4 * m + 2) = nx j:=by rw [e0];rfl
 rw [e1,hn] at h2
 have e2 : incG (fP D j (fun _=>0) 0 (-1)).g1 = { f0.g1 with opn:=((j + 1) / 2 : Nat) }:=by
  show ({ f0.g1 with opn:=((j / 2 : Nat) : Int) + 1 } : Grp) = _
  rw [show ((j / 2 : Nat) : Int) + 1 = ((j + 1) / 2 : Nat) from by omega]
 have e3 : (fP D j (fun _=>0) 0 (-1)).g0 = { f0.g0 with opn:=((j + 2) / 2 : Nat) }:=by
  show ({ f0.g0 with opn:=(((j + 1) / 2 : Nat) : Int) } : Grp) = _
  rw [show (((j + 1) / 2 : Nat) : Int) = ((j + 2) / 2 : Nat) from by omega]
 rw [e2,e3] at h2
 exact h2
theorem nx_out (j : Nat) : (nx j).out = some (newOut 8192):=by
 unfold nx newStrm hasO isLoc
 have : (2 * j % 2 == 0) = true:=by simp
 rw [this]
 rfl
theorem nx_inp (j : Nat) : (nx j).inp = if j % 2 = 0 then some (newIn 8192) else none:=by
 unfold nx newStrm hasI isLoc kindN
 have h1 : (2 * j % 2 == 0) = true:=by simp
 have h2 : 2 * j / 2 % 2 = j % 2:=by omega
 rw [h1,h2]
 by_cases e : j % 2 = 0
 ·rw [e];rfl
 ·rw [if_neg e,decide_eq_false e];rfl
theorem nx_wc (j : Nat) : wcE (nx j) = 0:=by unfold wcE;rw [nx_out];rfl
theorem nx_wr (hD : ∀ j,(D j).size = 8000) (j : Nat) : wrS (nx j) (D j) = fx D j 0 ∧ wrN (nx j) (D j) = 8000:=by
 have h:=flw_start (d:=D j) (by rw [hD];decide)
 have h1 : wrS (nx j) (D j) = { nx j with out:=some { newOut 8192 with X:=(newX 8192).write (D j) } }:=by
  unfold wrS;rw [nx_out,nx_wc];rfl
 have h2 : wrN (nx j) (D j) = (newX 8192).writeN (D j):=by
  unfold wrN;rw [nx_out,nx_wc];rfl
 rw [h1,h2,h.1,h.2,hD]
 refine ⟨?_,rfl⟩
 have:=nx_inp j
 unfold fx
 rw [← this]
 rfl
theorem fair_write (hD : ∀ j,(D j).size = 8000) (j : Nat) (h : Mn W w a (fPo D j) R) : Calls Tryz.prog 19 #[ptr a.sb,.int .i64 ((2 * j : Nat) : Int),.string (D j)] w fun e w'=>e = .returned (.tuple #[.int .i64 8000,.int .i64 0]) ∧ Mn W w' a (fP D (j + 1) (fun _=>0) 0 (-1)) R:=by
 obtain ⟨h1,h2⟩:=nx_wr hD j
 refine (mn_write h (q1:=(List.range j).map (fun j=>fx D j 0)) (x:=nx j) (q2:=[]) rfl (D j) (by rw [hD];decide) (fun o ho=>?_)).mono fun e w' hh=>?_
 ·rw [nx_out] at ho
  injection ho with ho
  subst ho
  show 0 + (newX 8192).writeN (D j) ≤ _
  rw [(flw_start (d:=D j) (by rw [hD];decide)).2,hD]
  decide
 ·rw [h1,h2,nx_wc] at hh
  refine ⟨hh.1,?_⟩
  have e : (List.range j).map (fun j=>fx D j 0) ++ fx D j 0 :: [] = (List.range (j + 1)).map (fun j=>fx D j 0):=by
   rw [List.range_succ,List.map_append];rfl
  have h3:=hh.2
  rw [e] at h3
  exact h3
end
section
variable {D : FD}
theorem f_near : f0.wn.near = false:=by decide
theorem fP_qt {n : Nat} {sn : Nat → Nat} {u sv : Int} (hs : ∀ j,j < n → sn j < 8000) (hu : u < 1048576) : Qt (fP D n sn u sv):=by
 have he : ∀ x ∈ (fP D n sn u sv).ss,∃ j,j < n ∧ x = fx D j (sn j):=fun x hx=>by
  obtain ⟨j,hj,rfl⟩:=List.mem_map.mp (show x ∈ (List.range n).map (fun j=>fx D j (sn j)) from hx)
  exact ⟨j,List.mem_range.mp hj,rfl⟩
 refine ⟨f_near,rfl,rfl,rfl,rfl,rfl,?_,fun x hx o ho=>?_,fun x hx i hi=>?_⟩
 ·show (!(decide (0 < 1048576 - u) || _)) = false
  rw [decide_eq_true (by omega)];rfl
 ·obtain ⟨j,hj,rfl⟩:=he x hx
  injection ho with ho
  subst ho
  refine ⟨rfl,?_⟩
  show (!(decide ((0 : Int) < 8192 - (sn j : Nat)) || _)) = false
  rw [decide_eq_true (by have:=hs j hj;omega)];rfl
 ·obtain ⟨j,hj,rfl⟩:=he x hx
  have hi : (if j % 2 = 0 then some (newIn 8192) else none) = some i:=hi
  split at hi
  ·injection hi with hi
   subst hi
   exact ⟨rfl,rfl,by decide⟩
  ·cases hi
def fSv (n c : Nat) : Int:=if c = 0 then -1 else ((2 * ((c - 1) % n) : Nat) : Int)
theorem f_cyc {n c : Nat} (hn : n = 2 ∨ n = 3 ∨ n = 4) (D : FD) (sn : Nat → Nat) (u : Int) : ∃ t,cycF ((fP D n sn u (fSv n c)).ss.map (·.id)) (fP D n sn u (fSv n c)).srv = 2 * (c % n) :: t:=by
 show ∃ t,cycF (((List.range n).map (fun j=>fx D j (sn j))).map (·.id)) (fSv n c) = _
 rw [List.map_map]
 have e : ((fun x : Strm=>x.id) ∘ fun j=>fx D j (sn j)) = fun j=>2 * j:=rfl
 rw [e]
 unfold fSv
 by_cases h0 : c = 0
 ·subst h0
  rw [if_pos rfl]
  rcases hn with rfl | rfl | rfl <;> exact ⟨_,rfl⟩
 ·rw [if_neg h0]
  obtain ⟨r,hr⟩ : ∃ r,(c - 1) % n = r:=⟨_,rfl⟩
  rw [hr]
  rcases hn with rfl | rfl | rfl
  ·have : r = 0 ∧ c % 2 = 1 ∨ r = 1 ∧ c % 2 = 0:=by omega
   rcases this with ⟨rfl,e⟩ | ⟨rfl,e⟩ <;> rw [e] <;> exact ⟨_,rfl⟩
  ·have : r = 0 ∧ c % 3 = 1 ∨ r = 1 ∧ c % 3 = 2 ∨ r = 2 ∧ c % 3 = 0:=by omega
   rcases this with ⟨rfl,e⟩ | ⟨rfl,e⟩ | ⟨rfl,e⟩ <;> rw [e] <;> exact ⟨_,rfl⟩
  ·have : r = 0 ∧ c % 4 = 1 ∨ r = 1 ∧ c % 4 = 2 ∨ r = 2 ∧ c % 4 = 3 ∨ r = 3 ∧ c % 4 = 0:=by omega
   rcases this with ⟨rfl,e⟩ | ⟨rfl,e⟩ | ⟨rfl,e⟩ | ⟨rfl,e⟩ <;> rw [e] <;> exact ⟨_,rfl⟩
def updN (sn : Nat → Nat) (k v : Nat) : Nat → Nat:=fun j=>if j = k then v else sn j
theorem f_find {n k : Nat} (hk : k < n) (D : FD) (sn : Nat → Nat) (u sv : Int) : findS (fP D n sn u sv) (2 * k) = some (fx D k (sn k)):=by
 show ((List.range n).map (fun j=>fx D j (sn j))).find? (fun x=>x.id == 2 * k) = _
 rw [List.find?_map]
 have : (List.range n).find? ((fun x : Strm=>x.id == 2 * k) ∘ fun j=>fx D j (sn j)) = some k:=by
  rw [List.find?_range_eq_some]
  refine ⟨by show (2 * k == 2 * k) = true;simp,List.mem_range.mpr hk,fun j hj=>?_⟩
  show (!(2 * j == 2 * k)) = true
  simp;omega
 rw [this]
 rfl
theorem f_serve (hD : ∀ j,(D j).size = 8000) {n k : Nat} (hk : k < n) (hn4 : n ≤ 4) {sn : Nat → Nat} {u sv m : Int} (hs : sn k ≤ 7000) (hu : 0 ≤ u ∧ u ≤ 1000000) (hm : 32 ≤ m ∧ m ≤ 200) :
  ∃ (d : ByteArray) (L lf : Nat),(L : Int) = m - 20 ∧ d.size = L ∧ lf < 32 ∧ srv (fP D n sn u sv) (2 * k) ⟨[],m⟩ = (fP D n (updN sn k (sn k + L)) (u + L) ((2 * k : Nat) : Int),⟨[fStr ((2 * k : Nat) : Int) (sn k) d false],lf⟩,true):=by
 obtain ⟨s,hsn⟩ : ∃ s,sn k = s:=⟨_,rfl⟩
 obtain ⟨S,hS⟩ : ∃ S,bytesOf (D k) = S:=⟨_,rfl⟩
 have hl : S.length = 8000:=by rw [← hS,fD_len hD]
 rw [hsn] at hs
 obtain ⟨L,hL⟩ : ∃ L : Nat,(L : Int) = m - 20:=⟨(m - 20).toNat,by omega⟩
 have hL2 : 12 ≤ L ∧ L ≤ 180:=by omega
 have hx : fx D k s = ⟨2 * k,some (fo D k s),if k % 2 = 0 then some (newIn 8192) else none,false⟩:=rfl
 have hact : (fo D k s).act = true:=by
  unfold fo OutP.act
  dsimp only
  split <;> rfl
 have hP : srvP ⟨1048576,u,0⟩ (fo D k s) ⟨[],m⟩ = some (s,s + L):=by
  show (flW (bytesOf (D k)) s).nextP (min (m - 20) 1024) (min (1048576 - u) (8192 - (s : Int))) = _
  rw [hS,flw_next (by omega) _ _ (by omega),if_pos ⟨by omega,by omega⟩,hl]
  simp only [Option.some.injEq,Prod.mk.injEq,true_and]
  omega
 have hX : (fo D k s).X.frame s (s + L) = flW S (s + L):=by
  show (flW (bytesOf (D k)) s).frame s (s + L) = _
  rw [hS];exact flw_frame (by omega) (by omega)
 have hN : srvN (fo D k s) (s,s + L) = L:=by
  unfold srvN
  dsimp only
  rw [hX,flw_sent (by omega)]
  show ((s + L : Nat) : Int) - ((flW (bytesOf (D k)) s).sent : Nat) = _
  rw [hS,flw_sent (by omega)]
  omega
 have hF : (fo D k s).X.frameR s (s + L) = mkFr 8 s (strOfNums ((S.drop s).take L)) false:=by
  show (flW (bytesOf (D k)) s).frameR s (s + L) = _
  rw [hS,flw_frameR,show s + L - s = L from by omega]
 have hds : (strOfNums ((S.drop s).take L)).size = L:=by rw [strOfNums_size,List.length_take,List.length_drop];omega
 have hO : srvO (fo D k s) (s,s + L) = fo D k (s + L):=by
  unfold srvO
  rw [hN]
  dsimp only
  rw [hX,hF]
  unfold OutP.on fo
  dsimp only
  rw [hS]
  have e1 : onS (if s = 0 then 0 else 1) (if (mkFr 8 (s : Int) (strOfNums ((S.drop s).take L)) false).fin = true then 2 else 1) = 1:=by
   show onS (if s = 0 then 0 else 1) 1 = 1
   split <;> decide
  rw [e1,if_neg (by omega : ¬ s + L = 0)]
  simp only [OutP.mk.injEq,Snd.mk.injEq,true_and,and_true]
  omega
 have hFr : srvF ((2 * k : Nat) : Int) (fo D k s) (s,s + L) = fStr ((2 * k : Nat) : Int) s (strOfNums ((S.drop s).take L)) false:=by
  unfold srvF
  dsimp only
  rw [hF]
  rfl
 obtain ⟨d,hd⟩ : ∃ d,strOfNums ((S.drop s).take L) = d:=⟨_,rfl⟩
 rw [hd] at hds hFr
 have hsz:=szF_str (id:=((2 * k : Nat) : Int)) (off:=s) (d:=d) (fin:=false) ⟨by omega,by omega⟩ ⟨by omega,by omega⟩ (by omega)
 rw [hds] at hsz
 refine ⟨d,L,(m - szF (fStr ((2 * k : Nat) : Int) s d false)).toNat,hL,hds,by omega,?_⟩
 have hfit : (⟨[],m⟩ : Bat).fits (fStr ((2 * k : Nat) : Int) s d false) = true:=decide_eq_true (by show szF _ ≤ m;omega)
 have hadd : (⟨[],m⟩ : Bat).add (fStr ((2 * k : Nat) : Int) s d false) = ⟨[fStr ((2 * k : Nat) : Int) s d false],(m - szF (fStr ((2 * k : Nat) : Int) s d false)).toNat⟩:=by
  unfold Bat.add
  rw [if_pos hfit]
  simp only [List.nil_append,Bat.mk.injEq,true_and]
  omega
 unfold srv
 rw [f_find hk,hsn]
 unfold srvX
 show (if ((fo D k s).act && decide (32 ≤ m)) = true then (match srvP ⟨1048576,u,0⟩ (fo D k s) ⟨[],m⟩ with | none=>_ | some p=>_) else _) = _
 rw [hact,decide_eq_true hm.1,show (true && true) = true from rfl,if_pos rfl,hP]
 dsimp only
 have e1 : updS (fP D n sn u sv).ss (fx D k s).id { fx D k s with out:=some (srvO (fo D k s) (s,s + L)) } = (List.range n).map (fun j=>fx D j (updN sn k (s + L) j)):=by
  show ((List.range n).map (fun j=>fx D j (sn j))).map (fun y=>if y.id = 2 * k then _ else y) = _
  rw [List.map_map]
  refine List.map_congr_left (fun j _=>?_)
  show (if 2 * j = 2 * k then _ else fx D j (sn j)) = fx D j (updN sn k (s + L) j)
  unfold updN
  by_cases e : j = k
  ·subst e
   rw [if_pos rfl,if_pos rfl,hO]
   rfl
  ·rw [if_neg (by omega),if_neg e]
 rw [e1]
 have e2 : srvF ((fx D k s).id : Int) (fo D k s) (s,s + L) = fStr ((2 * k : Nat) : Int) s d false:=hFr
 rw [e2,hadd,hfit,hN]
 rfl
structure FaI (D : FD) (n c : Nat) (p : SetP) : Prop where
 is : ∃ sn u,p = fP D n sn u (fSv n c) ∧ (∀ j,j < n → sn j ≤ 180 * c) ∧ 0 ≤ u ∧ u ≤ 180 * c
 good : FGood p
theorem fair_frames (hD : ∀ j,(D j).size = 8000) {n c : Nat} {p p' : SetP} (hn : n = 2 ∨ n = 3 ∨ n = 4) (hc : c < 30) {m : Int} (hm : 32 ≤ m ∧ m ≤ 200) (h : FaI D n c p) {fs : List Fr} (hf : FramesP p m p' fs) (hg : FGood p') :
  ∃ (d : ByteArray) (off : Nat),0 < d.size ∧ d.size ≤ 180 ∧ fs = [fStr ((2 * (c % n) : Nat) : Int) off d false] ∧ FaI D n (c + 1) p':=by
 obtain ⟨⟨sn,u,rfl,hs,hu0,hu1⟩,_⟩:=h
 have hk : c % n < n:=Nat.mod_lt _ (by omega)
 obtain ⟨b',h1,rfl⟩:=(fP_qt (fun j hj=>by have:=hs j hj;omega) (by omega)).frames hf
 obtain ⟨t,ht⟩:=f_cyc (c:=c) hn D sn u
 rw [ht] at h1
 obtain ⟨d,L,lf,hL,hds,hlf,hsv⟩:=f_serve hD (sn:=sn) (u:=u) (sv:=fSv n c) hk (by omega) (by have:=hs _ hk;omega) ⟨hu0,by omega⟩ hm
 obtain ⟨rfl,rfl⟩:=h1.one hsv (by show (lf : Int) < 32;omega)
 refine ⟨d,sn (c % n),by omega,by omega,rfl,⟨updN sn (c % n) (sn (c % n) + L),u + L,?_,fun j hj=>?_,by omega,by omega⟩,hg⟩
 ·have : fSv n (c + 1) = ((2 * (c % n) : Nat) : Int):=by
   unfold fSv
   rw [if_neg (by omega),Nat.add_sub_cancel]
  rw [this]
 ·have:=hs j hj
  have:=hs _ hk
  unfold updN
  split <;> omega
theorem fair_start (n : Nat) (hn : n ≤ 4) : FaI D n 0 (fP D n (fun _=>0) 0 (-1)):=by
 refine ⟨⟨fun _=>0,0,rfl,fun _ _=>Nat.zero_le _,by decide,by decide⟩,⟨fun x hx=>?_,?_,?_,(by show (0 : Int) ≤ 8 ∧ (8 : Int) ≤ _;decide),(by show (0 : Int) ≤ 8 ∧ (8 : Int) ≤ _;decide),?_,?_,?_⟩⟩
 ·obtain ⟨j,_,rfl⟩:=List.mem_map.mp (show x ∈ (List.range n).map (fun j=>fx D j 0) from hx)
  refine ⟨fun o ho=>?_,fun i hi=>?_⟩
  ·injection ho with ho
   subst ho
   refine ⟨(by show (0 : Int) ≤ 0 ∧ (0 : Int) ≤ 1073741823;decide),⟨by show (0 : Int) ≤ 0;decide,by show (0 : Int) ≤ 8192;decide,by show (8192 : Int) ≤ maxOff;decide⟩,⟨by show (-1 : Int) ≤ 0;decide,by show (0 : Int) ≤ _;decide⟩,?_⟩
   show ((flW (bytesOf (D j)) 0).sent : Int) ≤ 0
   rw [flw_sent (Nat.zero_le _)];decide
  ·have hi : (if j % 2 = 0 then some (newIn 8192) else none) = some i:=hi
   split at hi
   ·injection hi with hi
    subst hi
    decide
   ·cases hi
 ·show 0 ≤ (((n + 1) / 2 : Nat) : Int) ∧ (((n + 1) / 2 : Nat) : Int) ≤ 1000000000 ∧ (0 : Int) ≤ 0 ∧ (0 : Int) ≤ 1000000000 ∧ (0 : Int) ≤ 8 ∧ (8 : Int) ≤ 1000000000 ∧ (0 : Int) ≤ 0 ∧ (0 : Int) ≤ 1000000000
  omega
 ·show 0 ≤ ((n / 2 : Nat) : Int) ∧ ((n / 2 : Nat) : Int) ≤ 1000000000 ∧ (0 : Int) ≤ 0 ∧ (0 : Int) ≤ 1000000000 ∧ (0 : Int) ≤ 8 ∧ (8 : Int) ≤ 1000000000 ∧ (0 : Int) ≤ 0 ∧ (0 : Int) ≤ 1000000000
  omega
 ·exact ⟨by show (0 : Int) ≤ 0;decide,by show (0 : Int) ≤ 1048576;decide,by show (1048576 : Int) ≤ maxOff;decide⟩
 ·exact ⟨by show (-1 : Int) ≤ 0;decide,by show (0 : Int) ≤ _;decide⟩
 ·show ((List.range n).map (fun j=>fx D j 0)).length ≤ 5000
  simp;omega
end
def fCnt (n c j : Nat) : Nat:=(c + n - 1 - j) / n
end
section
open Go.RowKit Go.Maps
def fDd : FD:=fun j=>cont (2 * j) 0 8000
theorem fDd_size (j : Nat) : (fDd j).size = 8000:=cont_size _ _ _
theorem fair_new {W w : World} (hb : Below W.heap.size W w) : Calls Tryz.prog 17 #[.bool true,.agg #[.int .i64 1048576,.int .i64 8192,.int .i64 8,.int .i64 8,.int .i64 0,.int .i64 0],.agg #[.int .i64 1048576,.int .i64 8192,.int .i64 8,.int .i64 8,.int .i64 0,.int .i64 0]] w fun e w'=>∃ a : SetA,e = .returned (.tuple #[.pointer (some ⟨a.sb,0,none⟩),.int .i64 0]) ∧ Mn W w' a (fP fDd 0 (fun _=>0) 0 (-1)) []:=
 mn_new hb true bP bP (by decide) (by decide) (by decide)
def svA (n c q : Nat) : Int:=if q % 2 = 0 ∧ q / 2 < n then (fCnt n c (q / 2) : Int) else 0
def svR (n c : Nat) : Array Value:=((List.range 40).map fun q=>Value.int .i64 (svA n c q)).toArray
theorem svR_at (n c : Nat) {q : Nat} (h : q < 40) : (svR n c)[q]? = some (.int .i64 (svA n c q)):=by simp [svR,h]
theorem svR_zero {n : Nat} (hn : n = 2 ∨ n = 3 ∨ n = 4) : (svR n 0).toList = List.replicate 40 (.int .i64 0):=by
 unfold svR
 rw [List.toList_toArray]
 apply List.ext_getElem
 ·simp
 ·intro q h1 h2
  simp only [List.getElem_map,List.getElem_range,List.getElem_replicate]
  congr 1
  unfold svA fCnt
  split
  ·rename_i h
   have : (0 + n - 1 - q / 2) / n = 0:=Nat.div_eq_of_lt (by omega)
   rw [this];rfl
  ·rfl
theorem fCnt_succ {n c j : Nat} (hn : n = 2 ∨ n = 3 ∨ n = 4) (hj : j < n) : fCnt n (c + 1) j = if j = c % n then fCnt n c j + 1 else fCnt n c j:=by
 unfold fCnt
 rcases hn with rfl | rfl | rfl <;> split <;> omega
theorem svR_succ {n c : Nat} (hn : n = 2 ∨ n = 3 ∨ n = 4) : (svR n c).setIfInBounds (2 * (c % n)) (.int .i64 (svA n c (2 * (c % n)) + 1)) = svR n (c + 1):=by
 have hk : c % n < n:=Nat.mod_lt _ (by omega)
 apply Array.ext_getElem?
 intro q
 rw [Array.getElem?_setIfInBounds]
 by_cases e : 2 * (c % n) = q
 ·rw [if_pos e]
  subst e
  have hs : 2 * (c % n) < (svR n c).size:=by simp [svR];omega
  rw [if_pos hs,svR_at n (c + 1) (by omega)]
  unfold svA
  rw [if_pos ⟨by omega,by omega⟩,if_pos ⟨by omega,by omega⟩,show 2 * (c % n) / 2 = c % n from by omega,fCnt_succ hn hk,if_pos rfl]
  push_cast
  rfl
 ·rw [if_neg e]
  by_cases h : q < 40
  ·rw [svR_at n c h,svR_at n (c + 1) h]
   congr 2
   unfold svA
   split
   ·rename_i hh
    rw [fCnt_succ hn hh.2,if_neg (by omega)]
   ·rfl
  ·simp [svR,h]
theorem svA_rng {n c : Nat} (hn : n = 2 ∨ n = 3 ∨ n = 4) {i : Nat} (hi : i < n) (hc : c ≤ 30) : svA n c (2 * i) = (fCnt n c i : Int) ∧ c / n ≤ fCnt n c i ∧ fCnt n c i ≤ c / n + 1 ∧ fCnt n c i ≤ 100:=by
 unfold svA
 rw [if_pos ⟨by omega,by omega⟩,show 2 * i / 2 = i from by omega]
 unfold fCnt
 rcases hn with rfl | rfl | rfl <;> omega
section
variable {W w w' : World} {a : SetA} {p : SetP} {R : List (Nat × Obj)}
theorem Mn.set1 {g : Nat} {cs : Array Value} {T : TypeId} (h : Mn W w a p [(g,.cells cs T (0,0))]) (i : Nat) (v : Value) : Mn W (w.setCell ⟨g,i,none⟩ v) a p [(g,.cells (cs.setIfInBounds i v) T (0,0))]:=by
 obtain ⟨H,s,hm,S,e,hR⟩:=h
 obtain ⟨hg,hf⟩:=hR _ (List.mem_singleton_self _)
 obtain ⟨H',T',e'⟩:=To.set hm hg i v
 refine ⟨H',s,T'.mem,S.keep (fun k o hk ho=>T'.kp k o ho (fun e=>hf (e ▸ hk))),e,fun x hx=>?_⟩
 rw [List.mem_singleton] at hx
 subst hx
 exact ⟨e',hf⟩
theorem Mn.subL (h : Mn W w a p R) {R' : List (Nat × Obj)} (hs : ∀ x ∈ R',x ∈ R) : Mn W w a p R':=by
 obtain ⟨H,s,h1,h2,h3,h4⟩:=h
 exact ⟨H,s,h1,h2,h3,fun x hx=>h4 x (hs x hx)⟩
def FaF (W w' : World) (a : SetA) (n c : Nat) (R : List (Nat × Obj)) (e : Ending) : Prop:=∃ g2 cap o d,∃ off : Nat,e = .returned (.slice (some ⟨g2,0,none⟩) 1 cap) ∧ 0 < d.size ∧ d.size ≤ 180 ∧ (∀ w : World,w.heap[g2]? = some o → ∀ (k : Nat) u,(frs [fStr ((2 * (c % n) : Nat) : Int) off d false])[k]? = some u → w.cell? ⟨g2,k,none⟩ = some u) ∧ ∃ p',FaI fDd n (c + 1) p' ∧ Mn W w' a p' ((g2,o) :: R)
theorem fair_call {n c : Nat} (hn : n = 2 ∨ n = 3 ∨ n = 4) (hc : c < 30) (hp : FaI fDd n c p) (h : Mn W w a p R) {m : Int} (hm : 32 ≤ m ∧ m ≤ 200) : Calls Tryz.prog 21 #[.pointer (some ⟨a.sb,0,none⟩),.int .i64 m] w fun e w'=>FaF W w' a n c R e:=by
 refine (mn_frames h hp.good m (by omega) (by omega)).mono fun e w' hh=>?_
 obtain ⟨v,fs,p',R',rfl,h1,h2,h3,h4,h5⟩:=hh
 obtain ⟨d,off,k1,k2,rfl,k3⟩:=fair_frames fDd_size hn hc hm hp h1 h2
 obtain ⟨g,cap,o,rfl,rfl,hk⟩:=h4.cell (by simp)
 exact ⟨g,cap,o,d,off,rfl,k1,k2,hk,p',k3,h5⟩
end
theorem madeCells_i64 (n : Nat) : (madeCells (Value.int .i64 0).cells (n * 1)).toList = List.replicate n (Value.int .i64 0):=by
 simp only [madeCells,Value.cells,Nat.mul_one]
 apply List.ext_getElem?
 intro j
 by_cases h : j < n
 ·simp [h,Nat.mod_one]
 ·simp [h]
theorem idx2 (k : Nat) (hk : k < 4) : wrap64 (wrap64 (4 * wrap64 ((k : Int) / 2)) + 2 * ((k : Int) % 2)) = ((2 * k : Nat) : Int):=by
 have : k = 0 ∨ k = 1 ∨ k = 2 ∨ k = 3:=by omega
 rcases this with rfl | rfl | rfl | rfl <;> (unfold wrap64;omega)
theorem facts3i : (∃ i,Tryz.prog.info? 3 = some i ∧ i.zero = some (.int .i64 0) ∧ i.size = 1 ∧ i.bytes = 8):=⟨_,rfl,rfl,rfl,rfl⟩
theorem fair_walk (b0 b1 b2 : Int) (h0 : 0 ≤ b0 ∧ b0 ≤ 255) (h1 : 0 ≤ b1 ∧ b1 ≤ 255) (h2 : 0 ≤ b2 ∧ b2 ≤ 255) {w : World} {a0 a1 a2 a3 : Addr} (hE : rea.Errs w a0 a1 a2 a3) (hA : rea.Apt w a0 a1) : Calls Tryz.prog 3 #[.int .u8 b0,.int .u8 b1,.int .u8 b2] w fun e w'=>e = .returned (.bool true) ∧ Below w.heap.size w w':=by
 have SN:=Lib.hid (sane_any hE hA)
 have HB:=Lib.hid (And.intro h0 (And.intro h1 h2))
 clear hE hA h0 h1 h2
 go_enter Tryz.func3,Tryz.ntmps3
 go_upto_region 3 with (go_at_call 16;refine SN.out.mono ?_;rintro e w0 ⟨rfl,hb⟩;have B0:=Lib.hid hb;clear hb)
 clear SN
 go_upto_region 4 with (fail)
 have en : ∃ n : Nat,wrap64 (2 + (wrap64 b0).tmod 3) = (n : Int) ∧ (n = 2 ∨ n = 3 ∨ n = 4):=by
  have hw : wrap64 b0 = b0:=by
   have:=HB.out.1
   unfold wrap64
   omega
  have h2:=Int.tmod_nonneg 3 HB.out.1.1
  have h3:=Int.tmod_lt_of_pos b0 (show (0 : Int) < 3 by decide)
  rw [hw]
  refine ⟨(2 + b0.tmod 3).toNat,?_,by omega⟩
  unfold wrap64
  omega
 obtain ⟨n,hn,hn2⟩:=en
 rw [hn]
 have HN:=Lib.hid hn2
 clear hn hn2
 have X:=Lib.hid (box1 w0 (.cells #[.int .i64 1048576,.int .i64 8192,.int .i64 8,.int .i64 8,.int .i64 0,.int .i64 0] 24))
 have XB:=Lib.hid (btr2 B0.out X.out.2)
 clear B0
 go_upto_region 5 with (fail)
 obtain ⟨X1,X2⟩:=X.out
 obtain ⟨b,hb⟩ : ∃ b,w0.heap.size = b:=⟨_,rfl⟩
 rw [hb] at X1 ⊢
 clear X hb X2
 generalize World.alloc _ _ = W at *
 have q0 : W.cell? ⟨b,0,none⟩ = some (.int .i64 1048576):=at_whole' X1 rfl
 have q1 : W.cell? ⟨b,1,none⟩ = some (.int .i64 8192):=at_whole' X1 rfl
 have q2 : W.cell? ⟨b,2,none⟩ = some (.int .i64 8):=at_whole' X1 rfl
 have q3 : W.cell? ⟨b,3,none⟩ = some (.int .i64 8):=at_whole' X1 rfl
 have q4 : W.cell? ⟨b,4,none⟩ = some (.int .i64 0):=at_whole' X1 rfl
 have q5 : W.cell? ⟨b,5,none⟩ = some (.int .i64 0):=at_whole' X1 rfl
 clear X1
 have NW:=Lib.hid (fair_new (Below.refl W.heap.size W))
 go_upto_region 8 with (go_at_call 17;refine NW.out.mono ?_;rintro e w1 ⟨a,rfl,hM⟩;have M1:=Lib.hid hM;clear hM NW q0 q1 q2 q3 q4 q5)
 go_wp2
 go_loopw [11] (fun i wr=>∃ j : Nat,j ≤ n ∧ i = .int .i64 j ∧ Hid (Mn W wr a (fP fDd j (fun _=>0) 0 (-1)) [])) (fun i _=>n - (intOf i).toNat)
 case atStart=>exact ⟨0,Nat.zero_le _,rfl,M1⟩
 case round=>
  obtain ⟨j,hj,rfl,MR⟩:=hrel
  by_cases hlt : j < n
  ·have h4 : j < 4:=by have:=HN.out;omega
   have wj : IntKind.i64.wrap ((j : Int) + 1) = ((j + 1 : Nat) : Int):=by rw [IntWalk.i64_in _ (by omega)];omega
   rcases (show j = 2 * (j / 2) ∨ j = 2 * (j / 2) + 1 by omega) with hm | hm
   ·have tm1 : Int.tmod (j : Int) 2 = 0:=by rw [Int.tmod_eq_emod_of_nonneg (by omega)];omega
    have tm2 : (j : Int) % 2 = 0:=by omega
    have tm3 : j % 2 = 0:=by omega
    have O1:=Lib.hid (show Calls Tryz.prog 18 #[.pointer (some ⟨a.sb,0,none⟩),.bool false] wr (fun e w'=>e = .returned (.tuple #[.int .i64 ((2 * j : Nat) : Int),.int .i64 0]) ∧ Mn W w' a (fPo fDd j) []) from fair_open0 j (j / 2) hm h4 MR.out)
    have C1:=Lib.hid (fun wx : World=>content_any (2 * j) 0 8000 wx (by omega) (by omega) (by omega))
    have W1:=Lib.hid (fun (wx : World) (h : Mn W wx a (fPo fDd j) [])=>(show Calls Tryz.prog 19 #[.pointer (some ⟨a.sb,0,none⟩),.int .i64 ((2 * j : Nat) : Int),.string (cont (2 * j) 0 8000)] wx (fun e w'=>e = .returned (.tuple #[.int .i64 8000,.int .i64 0]) ∧ Mn W w' a (fP fDd (j + 1) (fun _=>0) 0 (-1)) []) from fair_write fDd_size j h))
    obtain ⟨I,hI⟩ : ∃ I : Nat,2 * j = I:=⟨_,rfl⟩
    rw [hI] at O1 C1 W1
    obtain ⟨S,hS⟩ : ∃ S,cont I 0 8000 = S:=⟨_,rfl⟩
    rw [hS] at W1 C1
    clear hI hS hm h4
    go_wp2_with (first
     | (go_at_call 18;refine O1.out.mono ?_;rintro e w2 ⟨rfl,hF⟩;have M2:=Lib.hid hF;clear hF tm1 tm2 tm3 O1)
     | (go_at_call 20;refine (C1.out _).mono ?_;rintro e w3 ⟨rfl,hb⟩;have M3:=Lib.hid (M2.out.same hb);clear hb M2)
     | (go_at_call 19;refine (W1.out _ M3.out).mono ?_;rintro e w4 ⟨rfl,hF⟩;have M4:=Lib.hid hF;clear hF M3))
    go_roundw
    case rel=>exact ⟨j + 1,by omega,by go_num,M4⟩
    case measure=>simp [intOf];omega
   ·have tm1 : Int.tmod (j : Int) 2 = 1:=by rw [Int.tmod_eq_emod_of_nonneg (by omega)];omega
    have tm2 : (j : Int) % 2 = 1:=by omega
    have tm3 : j % 2 = 1:=by omega
    have O1:=Lib.hid (show Calls Tryz.prog 18 #[.pointer (some ⟨a.sb,0,none⟩),.bool true] wr (fun e w'=>e = .returned (.tuple #[.int .i64 ((2 * j : Nat) : Int),.int .i64 0]) ∧ Mn W w' a (fPo fDd j) []) from fair_open1 j (j / 2) hm h4 MR.out)
    have C1:=Lib.hid (fun wx : World=>content_any (2 * j) 0 8000 wx (by omega) (by omega) (by omega))
    have W1:=Lib.hid (fun (wx : World) (h : Mn W wx a (fPo fDd j) [])=>(show Calls Tryz.prog 19 #[.pointer (some ⟨a.sb,0,none⟩),.int .i64 ((2 * j : Nat) : Int),.string (cont (2 * j) 0 8000)] wx (fun e w'=>e = .returned (.tuple #[.int .i64 8000,.int .i64 0]) ∧ Mn W w' a (fP fDd (j + 1) (fun _=>0) 0 (-1)) []) from fair_write fDd_size j h))
    obtain ⟨I,hI⟩ : ∃ I : Nat,2 * j = I:=⟨_,rfl⟩
    rw [hI] at O1 C1 W1
    obtain ⟨S,hS⟩ : ∃ S,cont I 0 8000 = S:=⟨_,rfl⟩
    rw [hS] at W1 C1
    clear hI hS hm h4
    go_wp2_with (first
     | (go_at_call 18;refine O1.out.mono ?_;rintro e w2 ⟨rfl,hF⟩;have M2:=Lib.hid hF;clear hF tm1 tm2 tm3 O1)
     | (go_at_call 20;refine (C1.out _).mono ?_;rintro e w3 ⟨rfl,hb⟩;have M3:=Lib.hid (M2.out.same hb);clear hb M2)
     | (go_at_call 19;refine (W1.out _ M3.out).mono ?_;rintro e w4 ⟨rfl,hF⟩;have M4:=Lib.hid hF;clear hF M3))
    go_roundw
    case rel=>exact ⟨j + 1,by omega,by go_num,M4⟩
    case measure=>simp [intOf];omega
  ·have : j = n:=by omega
   subst this
   clear hj hlt
   have F0:=Lib.hid (fair_start (D:=fDd) j (by have:=HN.out;omega))
   have XB2:=Lib.hid (btr2 XB.out MR.out.below)
   obtain ⟨i3,p1,p2,p3,p4⟩:=facts3i
   have P1:=Lib.hid p1;have P2:=Lib.hid p2;have P3:=Lib.hid p3;have P4:=Lib.hid p4
   clear p1 p2 p3 p4
   go_upto_region 16 with (refine wpList_make_full wr rfl (.const (.int .i64 40)) (.const (.int .i64 40)) 33 rfl 0 3 i3 _ 1 Tryz.underlying33 P1.out P2.out P3.out .i64 .i64 _ _ 40 rfl rfl rfl rfl (by rw [P4.out];omega) (by unfold maxLen;omega) (Nat.zero_le _) ?_;intro w2 ho hg)
   have Y:=Lib.hid (show w2.heap[wr.heap.size]? = some (.cells (svR j 0) 3 (0,0)) ∧ Below wr.heap.size wr w2 from by
    refine ⟨?_,⟨hg.os,hg.tape,hg.output,hg.size,fun k hk=>hg.block k hk (by simp)⟩⟩
    obtain ⟨hl,ho⟩:=ho
    rcases ho with ⟨e,_⟩ | ⟨g',cap',cur,e,h2,h3,h4,h5,h6,h7⟩
    ·cases e
    ·simp only [Value.slice.injEq,Option.some.injEq,Addr.mk.injEq] at e
     obtain ⟨⟨rfl,_,_⟩,_,rfl⟩:=e
     rw [h3]
     have e1 : cur.toList = (svR j 0).toList:=by
      rw [svR_zero HN.out]
      rw [List.take_of_length_le (by simpa using Nat.le_of_eq h6)] at h7
      rw [h7]
      exact madeCells_i64 40
     have e2 : cur = svR j 0:=Array.toList_inj.mp e1
     rw [e2])
   clear ho hg P1 P2 P3 P4
   have M2:=Lib.hid (MR.out.lay Y.out.2 (Nat.le_refl _) Y.out.1)
   obtain ⟨g,hgg⟩ : ∃ g,wr.heap.size = g:=⟨_,rfl⟩
   rw [hgg] at M2 ⊢
   clear hgg Y MR
   have ec : ∃ nc : Nat,(wrap64 b2).tmod 31 = (nc : Int) ∧ nc ≤ 30:=by
    have hw : wrap64 b2 = b2:=by
     have:=HB.out.2.2
     unfold wrap64
     omega
    have h2:=Int.tmod_nonneg 31 HB.out.2.2.1
    have h3:=Int.tmod_lt_of_pos b2 (show (0 : Int) < 31 by decide)
    rw [hw]
    exact ⟨(b2.tmod 31).toNat,by omega,by omega⟩
   obtain ⟨nc,hnc,hnc1⟩:=ec
   have HC:=Lib.hid hnc1
   clear hnc1
   have em : ∃ m : Int,wrap64 (32 + (wrap64 b1).tmod 169) = m ∧ 32 ≤ m ∧ m ≤ 200:=by
    have hw : wrap64 b1 = b1:=by
     have:=HB.out.2.1
     unfold wrap64
     omega
    have h2:=Int.tmod_nonneg 169 HB.out.2.1.1
    have h3:=Int.tmod_lt_of_pos b1 (show (0 : Int) < 169 by decide)
    rw [hw]
    refine ⟨32 + b1.tmod 169,?_,by omega,by omega⟩
    unfold wrap64
    omega
   obtain ⟨m,hm,hm1⟩:=em
   have HM:=Lib.hid hm1
   clear hm1
   go_wp2
   go_loopw [17] (fun i wr2=>∃ c : Nat,c ≤ nc ∧ i = .int .i64 c ∧ Hid (∃ p,FaI fDd j c p ∧ Mn W wr2 a p [(g,.cells (svR j c) 3 (0,0))])) (fun i _=>nc - (intOf i).toNat)
   case atStart=>exact ⟨0,Nat.zero_le _,rfl,Lib.hid ⟨_,F0.out,M2.out⟩⟩
   case round=>
    obtain ⟨c,hc,rfl,HP⟩:=hrel
    by_cases hlt : c < nc
    ·have wc : IntKind.i64.wrap ((c : Int) + 1) = ((c + 1 : Nat) : Int):=by rw [IntWalk.i64_in _ (by have:=HC.out;omega)];omega
     have FC:=Lib.hid (show Calls Tryz.prog 21 #[.pointer (some ⟨a.sb,0,none⟩),.int .i64 m] _ (fun e w'=>FaF W w' a j c [(g,.cells (svR j c) 3 (0,0))] e) from by
      obtain ⟨p,hp,hM⟩:=HP.out
      exact fair_call HN.out (by have:=HC.out;omega) hp hM HM.out)
     go_upto_region 20 with (go_at_call 21;refine FC.out.mono ?_;rintro e w3 hF;have F3:=Lib.hid hF;clear hF;obtain ⟨g2,cap,o,d,off,rfl,F4⟩:=F3.out)
     obtain ⟨hd0,hd1,hk,p',hF',hM'⟩:=F4
     have FA:=Lib.hid hF'
     have MA:=Lib.hid hM'
     have KK:=Lib.hid hk
     have HD:=Lib.hid (And.intro hd0 hd1)
     clear hF' hM' hk hd0 hd1 F3 FC HP
     go_wp2
     go_loopw [19] (fun i wr3=>∃ k : Nat,k ≤ 1 ∧ i = .int .i64 k ∧ Hid (Mn W wr3 a p' (if k = 0 then [(g2,o),(g,.cells (svR j c) 3 (0,0))] else [(g,.cells (svR j (c + 1)) 3 (0,0))]))) (fun i _=>1 - (intOf i).toNat)
     case atStart=>exact ⟨0,Nat.zero_le _,rfl,Lib.hid MA.out⟩
     case round=>
      obtain ⟨k,hk,rfl,MK⟩:=hrel
      by_cases hlk : k < 1
      ·obtain rfl : k = 0:=by omega
       have M5:=Lib.hid (show Mn W _ a p' [(g2,o),(g,.cells (svR j c) 3 (0,0))] from MK.out)
       have M6:=Lib.hid (M5.out.subL (R':=[(g,.cells (svR j c) 3 (0,0))]) (fun x hx=>by simp at hx ⊢;exact .inr hx))
       have hkn : c % j < j:=Nat.mod_lt _ (by have:=HN.out;omega)
       have h4 : c % j < 4:=by have:=HN.out;omega
       have S1:=Lib.hid (svR_succ (c:=c) HN.out)
       have y2:=M5.out.row (x:=(g2,o)) (by simp)
       have y3:=M6.out.row (x:=(g,.cells (svR j c) 3 (0,0))) (by simp)
       have c0:=KK.out _ y2 0 (.int .i64 8) rfl
       have c1:=KK.out _ y2 1 (.int .i64 ((2 * (c % j) : Nat) : Int)) rfl
       have c3:=KK.out _ y2 3 (.string d) rfl
       have c4:=at_whole' y3 (svR_at j c (show 2 * (c % j) < 40 by omega))
       have c5:=frozen_whole y3 (2 * (c % j))
       have hv : 0 ≤ svA j c (2 * (c % j)) ∧ svA j c (2 * (c % j)) ≤ 100:=by
        have:=svA_rng (i:=c % j) HN.out hkn (by have:=HC.out;omega : c ≤ 30)
        rw [this.1];omega
       obtain ⟨q,hq⟩ : ∃ q,2 * (c % j) = q:=⟨_,rfl⟩
       have hq40 : q < 40:=by omega
       rw [hq] at c1 c4 c5 hv S1
       obtain ⟨z,hz⟩ : ∃ z,svA j c q = z:=⟨_,rfl⟩
       rw [hz] at c4 hv S1
       have wz : IntKind.i64.wrap (z + 1) = z + 1:=IntWalk.i64_in _ (by omega)
       have d1 : ((d.size : Int) == 0) = false:=beq_eq_false_iff_ne.2 (by have:=HD.out;omega)
       have d2 : (d.size = 0) = False:=eq_false (by have:=HD.out;omega)
       have M7:=Lib.hid (S1.out ▸ M6.out.set1 q (.int .i64 (z + 1)))
       have Q:=Lib.hid hq40
       have d3 : ((40 : Int) ≤ q) = False:=eq_false (by omega)
       have d4 : ((q : Int) < 0) = False:=eq_false (by omega)
       clear y2 y3 hq hz hkn h4 hv MK M5 M6 S1 hk
       go_wp2
       case roundEnd=>exact ⟨⟨1,Nat.le_refl _,rfl,Lib.hid M7.out⟩,by decide⟩
      ·obtain rfl : k = 1:=by omega
       have M8:=Lib.hid (show Mn W _ a p' [(g,.cells (svR j (c + 1)) 3 (0,0))] from MK.out)
       clear MK hk hlk
       go_wp2
       go_roundw
       case rel=>exact ⟨c + 1,by omega,by go_num,Lib.hid ⟨p',FA.out,M8.out⟩⟩
       case measure=>simp [intOf];omega
    ·obtain rfl : c = nc:=by omega
     obtain ⟨p,hp,hM⟩:=HP.out
     have MF:=Lib.hid hM
     clear HP hp hM hlt hc
     obtain ⟨q0,hq0⟩ : ∃ q0,c / j = q0:=⟨_,rfl⟩
     have q1 : q0 ≤ 30:=by have:=HC.out;have h:=Nat.div_le_self c j;omega
     have HQ:=Lib.hid (And.intro hq0 q1)
     clear hq0 q1
     go_upto_region 30 with (fail)
     go_wp2
     go_loopw [20,21,22] (fun lo hi i wr4=>∃ (k : Nat) (L H : Int),k ≤ j ∧ i = .int .i64 k ∧ lo = .int .i64 L ∧ hi = .int .i64 H ∧ 0 ≤ H ∧ (q0 : Int) ≤ L ∧ L ≤ 1000 ∧ H ≤ (q0 : Int) + 1 ∧ Hid (Mn W wr4 a p [(g,.cells (svR j c) 3 (0,0))])) (fun _ _ i _=>j - (intOf i).toNat)
     case atStart=>exact ⟨0,1000,0,Nat.zero_le _,rfl,rfl,rfl,by decide,by have:=HQ.out;omega,by decide,by omega,MF⟩
     case round=>
      obtain ⟨k,L,H,hk,rfl,rfl,rfl,h1,h2,h3,h4,MK⟩:=hrel
      by_cases hlt : k < j
      ·have wk : IntKind.i64.wrap ((k : Int) + 1) = ((k + 1 : Nat) : Int):=by rw [IntWalk.i64_in _ (by have:=HN.out;omega)];omega
       go_upto_region 34 with (fail)
       rw [idx2 k (by have:=HN.out;omega)]
       have k40 : 2 * k < 40:=by have:=HN.out;omega
       have c4:=at_whole' (MK.out.row (x:=(g,.cells (svR j c) 3 (0,0))) (by simp)) (svR_at j c k40)
       have RG:=svA_rng HN.out hlt HC.out
       rw [RG.1] at c4
       obtain ⟨z,hz⟩ : ∃ z,fCnt j c k = z:=⟨_,rfl⟩
       rw [hz] at c4 RG
       have ZR:=Lib.hid (show (q0 : Int) ≤ z ∧ (z : Int) ≤ q0 + 1 from by have:=RG.2;have:=HQ.out;omega)
       clear RG hz
       obtain ⟨q,hq⟩ : ∃ q,2 * k = q:=⟨_,rfl⟩
       rw [hq] at c4 k40 ⊢
       have Q:=Lib.hid k40
       have d3 : ((40 : Int) ≤ q) = False:=eq_false (by omega)
       have d4 : ((q : Int) < 0) = False:=eq_false (by omega)
       have d5 : ((q : Int) < 40) = True:=eq_true (by omega)
       clear hq k40
       have c4 : wr.cell? ⟨g,q,none⟩ = some (.int .i64 z):=c4
       go_wp2
       go_roundw
       case rel=>exact ⟨k + 1,min L z,max H z,by omega,by go_num,rfl,rfl,by have:=ZR.out;omega,by have:=ZR.out;omega,by have:=ZR.out;have:=HQ.out;omega,by have:=ZR.out;omega,MK⟩
       case measure=>simp [intOf];omega
      ·have wh : IntKind.i64.wrap (H - L) = H - L:=IntWalk.i64_in _ (by have:=HQ.out;omega)
       have dh : (H - L ≤ 1) = True:=eq_true (by omega)
       have FB:=Lib.hid (btr2 XB.out MK.out.below)
       clear h1 h2 h3 h4
       go_wp2
       go_ret
       exact ⟨rfl,FB.out⟩
end
end Go.Proofs.YthckbmcmdcemkaaGreatDoor.stm
namespace Go.Proofs.YthckbmcmdcemkaaGreatDoor.streamsFair
section
open Go.RowKit Go.WideShapes Go.ChangeShapes
theorem main {H : Type} {enc : TypeId × Value → H} (W : World) (ad : Addr × Addr × Addr × Addr) (hl : Laid ad W) (d0 d1 d2 : DataW H) (_hw : (DataW.weightsEach Tryz.prog [5,5,5] [d0,d1,d2]).all (· ≤ reachBytes) = true)
  (b0 : Nat) (v0 : Value) (p0 : List MemPlace) (k0 : Value.okWide Tryz.prog W .any b0 5 v0) (h0 : DataW.Trod enc Tryz.prog W 0 (fun _=>true) true 5 v0 d0 p0)
  (b1 : Nat) (v1 : Value) (p1 : List MemPlace) (k1 : Value.okWide Tryz.prog W .any b1 5 v1) (h1 : DataW.Trod enc Tryz.prog W 0 (fun _=>true) true 5 v1 d1 p1)
  (b2 : Nat) (v2 : Value) (p2 : List MemPlace) (k2 : Value.okWide Tryz.prog W .any b2 5 v2) (h2 : DataW.Trod enc Tryz.prog W 0 (fun _=>true) true 5 v2 d2 p2) :
  Calls Tryz.prog 3 #[v0,v1,v2] W fun e w'=>e = .returned (.bool true) ∧ Below W.heap.size W w':=by
 obtain ⟨a0,rfl,_,_,w0⟩:=open_int Tryz.underlying5 k0 h0
 obtain ⟨a1,rfl,_,_,w1⟩:=open_int Tryz.underlying5 k1 h1
 obtain ⟨a2,rfl,_,_,w2⟩:=open_int Tryz.underlying5 k2 h2
 exact stm.fair_walk a0 a1 a2 (bounds_u8 w0) (bounds_u8 w1) (bounds_u8 w2) hl.1 hl.2
end
end Go.Proofs.YthckbmcmdcemkaaGreatDoor.streamsFair
