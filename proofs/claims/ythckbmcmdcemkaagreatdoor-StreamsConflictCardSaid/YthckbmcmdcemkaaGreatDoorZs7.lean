/- Texts of this claim, one behind the other: ZVa ZVb ZVc ZConEnd. -/
import Derived.Test.YthckbmcmdcemkaaGreatDoorZs5
import Derived.Test.YthckbmcmdcemkaaGreatDoorBs41
import Derived.Test.YthckbmcmdcemkaaGreatDoorZs2
import Derived.Test.YthckbmcmdcemkaaGreatDoorZs1
import Derived.Test.YthckbmcmdcemkaaGreatDoorZs3
import Derived.Test.YthckbmcmdcemkaaGreatDoorZs4
import Derived.Test.YthckbmcmdcemkaaGreatDoorCa1
import Derived.Test.YthckbmcmdcemkaaGreatDoorBs6
import Derived.OwnWalk
import Derived.Laws.IdiomStrings
import Derived.Test.YthckbmcmdcemkaaGreatDoorBs42
import Derived.OpenShut
set_option maxRecDepth 100000
set_option maxHeartbeats 16000000
set_option linter.unusedSimpArgs false
set_option linter.unusedVariables false
namespace Go.Proofs.YthckbmcmdcemkaaGreatDoor.stm
section
open Go.RowKit Go.Maps
def y0 : SetP:=newP true uP uP
def yX (i : InP) : Strm:=⟨3,none,some i,false⟩
def yS (i : InP) (wn : Rcr) (tot : Int) : SetP:={ y0 with ss:=[] ++ yX i :: [],g1:={ y0.g1 with acc:=1 },wn:=wn,tot:=tot }
section
variable {W w w' : World} {a : SetA} {p p2 : SetP} {R : List (Nat × Obj)}
theorem cn_y0 : CnOk W a y0 (yS j0 y0.wn 0) 3 false:=
 cn_new1 3 (by decide) (by decide) (by decide) 0 rfl (by decide) (by decide) (by decide) (by decide) 500 rfl (by decide) (by decide) (fun e he=>by cases he) (by decide) (q1:=[]) (x:=yX j0) (q2:=[]) rfl rfl
theorem cn_yS (i : InP) (wn : Rcr) (tot : Int) : CnOk W a (yS i wn tot) (yS i wn tot) 3 false:=by
 have hf : ∀ e ∈ (yS i wn tot).ss,e.id % 4 = 3 % 4 → e.id / 4 < 1:=fun e he _=>by
  have : e = yX i:=by simpa [yS] using he
  rw [this];show 3 / 4 < 1;decide
 have hl : (yS i wn tot).ss.length + (3 / 4 + 1 - 1) ≤ 900000:=by show 1 + (3 / 4 + 1 - 1) ≤ 900000;decide
 exact cn_new1 (p:=yS i wn tot) 3 (by decide) (by decide) (by decide : isLoc true 3 = false) 1 rfl (by decide : ((3 : Nat) : Int) / 4 < y0.g1.gr + y0.g1.fg) (by decide : -9223372036854775808 ≤ y0.g1.gr + y0.g1.fg ∧ y0.g1.gr + y0.g1.fg ≤ 800000) (by decide : 0 ≤ y0.peer.sdata) (by decide : y0.peer.sdata ≤ 1073741824) 500 rfl (by decide) (by decide) hf hl (q1:=[]) (x:=yX i) (q2:=[]) rfl rfl
theorem gyS (i : InP) (wn : Rcr) (tot : Int) : (yS i wn tot).g0.Ok ∧ (yS i wn tot).g1.Ok:=⟨gB_ok (by decide : gB y0.g0 = true),gB_ok (by decide : gB { y0.g1 with acc:=1 } = true)⟩
theorem stl_yS (p : SetP) (i : InP) (h : dn i.recv = false) : stlP p [] [] (yX i) = { p with ss:=[] ++ yX i :: [] }:=by
 have hd : (yX i).done = false:=by simp [Strm.done,yX,h]
 unfold stlP
 rw [hd]
 simp
structure Hel (d : ByteArray) (i : InP) : Prop where
 bs : i.R.bs = rea.putB 0 0 (rea.bytesOf d) d.size (List.replicate 500 0)
 hs : i.R.hs = rea.putH 0 0 d.size (List.replicate 500 false)
 at0 : i.R.at_ = 0
 kn : i.R.kn = false
 cn : i.cn = d.size
 ms : i.wn.most = 500
 st : i.stp = false
 rc : i.recv = 0
section
variable {d : ByteArray} {i : InP} {wn : Rcr} {tot : Int} {a0 a1 a2 a3 : Addr}
theorem sz_end (k : Nat) (s : ByteArray) : datEnd (fStr 3 k s false) = ((k + s.size : Nat) : Int):=by show (k : Int) + (s.size : Nat) = _;push_cast;rfl
theorem y_exc (hw : wn.most = 1000) (ht : tot ≤ 100) (hc : 0 ≤ i.cn) (hm : i.wn.most = 500) {m : Nat} (hmm : m ≤ 100) : excP (yS i wn tot) i (m : Int) = false:=by
 unfold excP
 have h1 : decide (i.wn.most < (m : Int)) = false:=decide_eq_false (by rw [hm];omega)
 have h2 : decide ((yS i wn tot).wn.most < (yS i wn tot).tot + max ((m : Int) - i.cn) 0) = false:=decide_eq_false (by
  show ¬ wn.most < tot + max ((m : Int) - i.cn) 0
  rw [hw];omega)
 rw [h1,h2];rfl
theorem j0_hel (hd : d.size ≤ 100) : datEP (yS j0 y0.wn 0) j0 (fStr 3 0 d false) = 0:=by
 unfold datEP
 rw [show j0.wasR = false from rfl,show datEnd (fStr 3 0 d false) = ((0 + d.size : Nat) : Int) from sz_end 0 d,y_exc (wn:=y0.wn) rfl (by decide) (by decide) rfl (by omega)]
 show rea.putE j0.R 0 d false = 0
 unfold rea.putE
 have e1 : rea.agF j0.R.at_ j0.R.bs j0.R.hs ((0 : Nat) : Int) (rea.bytesOf d) = true:=rea.agF_true (fun i k h1 h2 h3 h4=>by
  rw [show j0.R.hs = List.replicate 500 false from rfl,hg_rep] at h4
  cases h4)
 rw [e1]
 rfl
theorem hel_first (hd : d.size ≤ 100) : Hel d (datI j0 (fStr 3 0 d false)):=by
 have hP : datF j0 (fStr 3 0 d false) = cntI { j0 with R:=j0.R.put 0 d false } ((0 + d.size : Nat) : Int):=by
  unfold datF
  rw [show (fStr 3 0 d false).fin = false from rfl]
  unfold datP
  rw [show datEnd (fStr 3 0 d false) = ((0 + d.size : Nat) : Int) from sz_end 0 d]
  rfl
 have hA : allB (cntI { j0 with R:=j0.R.put 0 d false } ((0 + d.size : Nat) : Int)) = false:=rfl
 unfold datI
 rw [hP,hA]
 refine ⟨rfl,rfl,rfl,rfl,?_,?_,rfl,rfl⟩
 ·show cntN { j0 with R:=j0.R.put 0 d false } ((0 + d.size : Nat) : Int) = _
  unfold cntN
  show (if (0 : Int) < ((0 + d.size : Nat) : Int) then ((0 + d.size : Nat) : Int) else 0) = _
  split <;> omega
 ·rfl
theorem Hel.notR (h : Hel d i) : i.wasR = false:=by unfold InP.wasR;rw [h.rc];rfl
theorem Hel.dn (h : Hel d i) : stm.dn i.recv = false:=by rw [h.rc];rfl
theorem Hel.conf (h : Hel d i) (hd : d.size ≤ 100) {k : Nat} {s : ByteArray} (h0 : 0 < s.size) (hk : k + s.size ≤ d.size) (hne : rea.gd (rea.bytesOf s) (s.size - 1) ≠ rea.gd (rea.bytesOf d) (k + s.size - 1)) (hw : wn.most = 1000) (ht : tot = d.size) :
  datEP (yS i wn tot) i (fStr 3 k s false) = 160:=by
 unfold datEP
 rw [h.notR,show datEnd (fStr 3 k s false) = ((k + s.size : Nat) : Int) from sz_end k s,y_exc (wn:=wn) hw (by omega) (by rw [h.cn];omega) h.ms (by omega)]
 show rea.putE i.R ((k : Int)).toNat s false = 160
 rw [show ((k : Int)).toNat = k from by omega]
 unfold rea.putE
 have bl : i.R.bs.length = 500:=by rw [h.bs,rea.putB_length];simp
 have sl : (rea.bytesOf s).length = s.size:=rea.bytesOf_length s
 have e1 : rea.agF i.R.at_ i.R.bs i.R.hs (k : Int) (rea.bytesOf s) = false:=by
  unfold rea.agF
  rw [List.all_eq_false]
  refine ⟨(s.size - 1,k + s.size - 1),rea.ovl_of (by rw [sl];omega) (by rw [bl];omega) (by rw [h.at0];omega),?_⟩
  unfold rea.agAt
  rw [h.hs,rea.hg_putH _ _ _ _ _ (by simp;omega),h.bs,rea.gd_putB _ _ _ _ _ _ (by simp;omega)]
  have c : (0 : Int) ≤ 0 + ((k + s.size - 1 : Nat) : Int) ∧ (0 : Int) + ((k + s.size - 1 : Nat) : Int) < 0 + ((d.size : Nat) : Int):=by omega
  rw [if_pos c,decide_eq_true c,show ((0 : Int) + ((k + s.size - 1 : Nat) : Int) - 0).toNat = k + s.size - 1 from by omega]
  simp [Ne.symm hne]
 rw [e1]
 rfl
theorem gd_ext_str {s t : ByteArray} (hs : s.size = t.size) (h : ∀ k,k < s.size → rea.gd (rea.bytesOf s) k = rea.gd (rea.bytesOf t) k) : s = t:=by
 apply ByteArray.ext_getElem hs
 intro k h1 h2
 have:=h k h1
 rw [rea.bytesOf_get s k h1,rea.bytesOf_get t k h2] at this
 exact UInt8.toNat.inj (by omega)
theorem gd_strOf {l : List Int} (hl : ∀ x ∈ l,0 ≤ x ∧ x ≤ 255) {k : Nat} (hk : k < l.length) : rea.gd (rea.bytesOf (strOfNums l)) k = rea.gd l k:=by
 unfold rea.bytesOf rea.gd
 rw [strOfNums_data,List.map_map,List.getElem?_map,List.getElem?_eq_getElem hk]
 have:=hl _ (List.getElem_mem hk)
 simp only [Option.map_some,Option.getD_some,Function.comp]
 rw [UInt8.toNat_ofNat_of_lt' (by show l[k].toNat < 256;omega)]
 omega
theorem bytesOf_rng (s : ByteArray) : ∀ x ∈ rea.bytesOf s,0 ≤ x ∧ x ≤ 255:=by
 intro x hx
 simp only [rea.bytesOf,List.mem_map] at hx
 obtain ⟨b,_,rfl⟩:=hx
 have:=b.toNat_lt
 omega
theorem Hel.read (h : Hel d i) (hd : d.size ≤ 100) : rdStr i.R 1000 = d ∧ rdEnd i.R 1000 = false:=by
 have hr : rea.readyF i.R.hs = d.size:=by
  rw [h.hs]
  refine rea.readyF_is (by rw [rea.putH_length];simp;omega) (fun k hk=>?_) (fun hk=>?_)
  ·rw [rea.hg_putH _ _ _ _ _ (by simp;omega),decide_eq_true (by omega)];rfl
  ·rw [rea.hg_putH _ _ _ _ _ (by simp;omega),decide_eq_false (by omega),hg_rep];rfl
 have hn : rdN i.R 1000 = d.size:=by unfold rdN;rw [hr];omega
 refine ⟨?_,by unfold rdEnd;rw [h.kn];rfl⟩
 unfold rdStr
 rw [hn]
 have bl : i.R.bs.length = 500:=by rw [h.bs,rea.putB_length];simp
 have tl : (i.R.bs.take d.size).length = d.size:=by rw [List.length_take];omega
 have at_k : ∀ k,k < d.size → rea.gd (i.R.bs.take d.size) k = rea.gd (rea.bytesOf d) k:=fun k hk=>by
  have : rea.gd (i.R.bs.take d.size) k = rea.gd i.R.bs k:=by unfold rea.gd;rw [List.getElem?_take_of_lt hk]
  rw [this,h.bs,rea.gd_putB _ _ _ _ _ _ (by simp;omega),if_pos (by omega)]
  congr 1;omega
 have rng : ∀ x ∈ i.R.bs.take d.size,0 ≤ x ∧ x ≤ 255:=fun x hx=>by
  obtain ⟨k,hk,rfl⟩:=List.getElem_of_mem hx
  have hk2 : k < d.size:=by omega
  have e:=at_k k hk2
  have e1 : rea.gd (i.R.bs.take d.size) k = (i.R.bs.take d.size)[k]:=by unfold rea.gd;rw [List.getElem?_eq_getElem hk];rfl
  have e2 : rea.gd (rea.bytesOf d) k ∈ rea.bytesOf d:=by
   have hkl : k < (rea.bytesOf d).length:=by rw [rea.bytesOf_length];exact hk2
   unfold rea.gd;rw [List.getElem?_eq_getElem hkl];exact List.getElem_mem hkl
  have:=bytesOf_rng d _ e2
  rw [← e,e1] at this
  exact this
 refine gd_ext_str (by rw [strOfNums_size,tl]) (fun k hk=>?_)
 rw [strOfNums_size,tl] at hk
 rw [gd_strOf rng (by rw [tl];exact hk),at_k k hk]
end
def CoOk (d : ByteArray) (W w : World) (a : SetA) (R : List (Nat × Obj)) : Prop:=∃ i wn,Hel d i ∧ wn.most = 1000 ∧ Mn W w a (yS i wn d.size) R
section
variable {d : ByteArray} {a0 a1 a2 a3 : Addr}
theorem CoOk.row (h : CoOk d W w a R) {x : Nat × Obj} (hx : x ∈ R) : w.heap[x.1]? = some x.2:=by
 obtain ⟨i,wn,h1,h2,h3⟩:=h
 exact h3.row hx
theorem vCo {k : Nat} {s : ByteArray} (hs : k + s.size ≤ 100) : frm.FrV (fStr 3 k s false):=v_str (by decide) (by omega) (by omega) (by omega)
theorem co_first (h : Mn W w a y0 R) (hd : d.size ≤ 100) (hE : rea.Errs W a0 a1 a2 a3) (hA : rea.Apt W a0 a1) : Calls Tryz.prog 24 #[ptr a.sb,(fStr 3 0 d false).val] w fun e w'=>e = .returned (.int .i64 0) ∧ CoOk d W w' a R:=by
 have F:=hel_first hd
 refine (mn_data h (fStr 3 0 d false) (vCo (k:=0) (by omega)) rfl (x:=yX j0) (i:=j0) (q1:=[]) (q2:=[]) (p2:=yS j0 y0.wn 0) rfl cn_y0 rfl rfl (gyS _ _ _).1 (gyS _ _ _).2 (by show (0 : Int) ≤ 0;decide) (by show (0 : Int) + (d.size : Nat) ≤ _;omega) (by show d.size ≤ _;omega) (by decide) (by decide) (by decide) (by decide) (by decide) (by decide) hE hA rfl (j0_hel hd)).mono fun e w' hh=>⟨hh.1,_,(y0.wn.recH d.size),F,rfl,?_⟩
 have h2:=hh.2
 have e1 : datI2 j0 (fStr 3 0 d false) = datI j0 (fStr 3 0 d false):=rfl
 rw [e1,show ({ yX j0 with inp:=some (datI j0 (fStr 3 0 d false)) } : Strm) = yX (datI j0 (fStr 3 0 d false)) from rfl,stl_yS _ _ F.dn] at h2
 have e2 : cntTP (yS j0 y0.wn 0) j0 (datEnd (fStr 3 0 d false)) = (d.size : Int):=by
  unfold cntTP
  rw [show datEnd (fStr 3 0 d false) = ((0 + d.size : Nat) : Int) from sz_end 0 d]
  show (0 : Int) + ((if (0 : Int) < ((0 + d.size : Nat) : Int) then ((0 + d.size : Nat) : Int) else 0) - 0) = _
  split <;> omega
 have e3 : datSP (yS j0 y0.wn 0) j0 (fStr 3 0 d false) ([] ++ yX (datI j0 (fStr 3 0 d false)) :: []) = yS (datI j0 (fStr 3 0 d false)) (y0.wn.recH d.size) d.size:=by
  unfold datSP
  rw [show j0.stp = false from rfl]
  unfold cntSP
  rw [e2]
  rfl
 rw [e3] at h2
 exact h2
theorem co_conf (h : CoOk d W w a R) (hd : d.size ≤ 100) {k : Nat} {s : ByteArray} (h0 : 0 < s.size) (hk : k + s.size ≤ d.size) (hne : rea.gd (rea.bytesOf s) (s.size - 1) ≠ rea.gd (rea.bytesOf d) (k + s.size - 1)) (hE : rea.Errs W a0 a1 a2 a3) (hA : rea.Apt W a0 a1) :
  Calls Tryz.prog 24 #[ptr a.sb,(fStr 3 k s false).val] w fun e w'=>e = .returned (.int .i64 160) ∧ CoOk d W w' a R:=by
 obtain ⟨i,wn,F,hw,h⟩:=h
 have hC:=F.conf (wn:=wn) (tot:=d.size) hd h0 hk hne hw rfl
 have hcn:=F.cn
 refine (mn_data_no h (fStr 3 k s false) (vCo (by omega)) rfl (x:=yX i) (i:=i) (q1:=[]) (q2:=[]) (p2:=yS i wn d.size) rfl (cn_yS _ _ _) rfl rfl (gyS _ _ _).1 (gyS _ _ _).2 (by show (0 : Int) ≤ k;omega) (by show (k : Int) + (s.size : Nat) ≤ _;omega) (by show s.size ≤ _;omega) (by rw [hcn];unfold maxOff;omega) (by show (0 : Int) ≤ (d.size : Nat) ∧ ((d.size : Nat) : Int) ≤ maxOff;unfold maxOff;omega) (by rw [F.at0];decide) hE hA (.inr (by rw [hC];decide))).mono fun e w' hh=>⟨by rw [hh.1,hC],i,wn,F,hw,?_⟩
 have h2:=hh.2
 rw [stl_yS _ _ F.dn] at h2
 exact h2
theorem co_read (h : CoOk d W w a R) (hd : d.size ≤ 100) : Calls Tryz.prog 26 #[ptr a.sb,.int .i64 3,.int .i64 1000] w fun e w'=>e = .returned (.tuple #[.string d,.bool false,.int .i64 0]) ∧ Below W.heap.size W w':=by
 obtain ⟨i,wn,F,hw,h⟩:=h
 obtain ⟨r1,r2⟩:=F.read hd
 have hr:=F.rc
 refine (mn_take h (q1:=[]) (x:=yX i) (q2:=[]) rfl rfl 1000 (by decide) (by rw [F.at0];decide) (gyS _ _ _).1 (gyS _ _ _).2 F.st ⟨by rw [hr];decide,by rw [hr];decide,by rw [hr];decide⟩).mono fun e w' hh=>⟨by rw [hh.1,r1,r2],hh.2.below⟩
end
end
end
section
open Go.RowKit
theorem cAt_byte (id off j : Nat) : 97 ≤ cAt id off j ∧ cAt id off j ≤ 122:=by unfold cAt;omega
theorem cont_rng (id off n : Nat) : ∀ x ∈ cRow (cAt id off) n n,0 ≤ x ∧ x ≤ 255:=by
 intro x hx
 simp only [cRow,List.mem_map] at hx
 obtain ⟨j,_,rfl⟩:=hx
 have:=cAt_byte id off j
 split <;> omega
theorem cRow_at (f : Nat → Int) {n k : Nat} (h : k < n) : (cRow f n n)[k]?.getD 0 = f k:=by
 simp [cRow,h]
end
section
open Go.RowKit Go.Maps
theorem con_new {W w : World} (hb : Below W.heap.size W w) : Calls Tryz.prog 17 #[.bool true,.agg #[.int .i64 1000,.int .i64 500,.int .i64 4,.int .i64 4,.int .i64 0,.int .i64 0],.agg #[.int .i64 1000,.int .i64 500,.int .i64 4,.int .i64 4,.int .i64 0,.int .i64 0]] w fun e w'=>∃ a : SetA,e = .returned (.tuple #[.pointer (some ⟨a.sb,0,none⟩),.int .i64 0]) ∧ Mn W w' a y0 []:=
 mn_new hb true uP uP (by decide) (by decide) (by decide)
theorem xor_u8 (a b : Nat) (ha : a < 256) (hb : b < 256) : bits .xor .u8 (a : Int) (b : Int) = ((a ^^^ b : Nat) : Int):=by
 have hx : a ^^^ b < 2 ^ 8:=Nat.xor_lt_two_pow (by omega) (by omega)
 have h1 : (BitVec.ofInt 8 (a : Int)).toNat = a:=by
  rw [BitVec.ofInt_natCast,BitVec.toNat_ofNat];exact Nat.mod_eq_of_lt (by omega)
 have h2 : (BitVec.ofInt 8 (b : Int)).toNat = b:=by
  rw [BitVec.ofInt_natCast,BitVec.toNat_ofNat];exact Nat.mod_eq_of_lt (by omega)
 show IntKind.u8.wrap ((BitVec.ofInt 8 (a : Int) ^^^ BitVec.ofInt 8 (b : Int)).toNat : Int) = _
 rw [BitVec.toNat_xor,h1,h2]
 exact IntWalk.u8_in _ (by omega)
theorem xor_other (x y : Int) (hx : 0 ≤ x ∧ x ≤ 255) (hy : 1 ≤ y ∧ y ≤ 255) : ∃ z : Int,bits .xor .u8 x y = z ∧ z ≠ x ∧ 0 ≤ z ∧ z ≤ 255:=by
 obtain ⟨a,rfl⟩ : ∃ a : Nat,x = a:=⟨x.toNat,by omega⟩
 obtain ⟨b,rfl⟩ : ∃ b : Nat,y = b:=⟨y.toNat,by omega⟩
 refine ⟨_,xor_u8 a b (by omega) (by omega),?_,by omega,?_⟩
 ·intro h
  have h' : a ^^^ b = a:=by omega
  have h2 : a ^^^ (a ^^^ b) = 0:=by rw [h',Nat.xor_self]
  rw [← Nat.xor_assoc,Nat.xor_self,Nat.zero_xor] at h2
  omega
 ·have hx : a ^^^ b < 2 ^ 8:=Nat.xor_lt_two_pow (by omega) (by omega)
  omega
theorem marked_set {w : World} {b i : Nat} {cs : Array Value} {T : TypeId} {z : Nat × Nat} (v : Value) (h : w.heap[b]? = some (.cells cs T z)) : (w.setCell ⟨b,i,none⟩ v).heap[b]? = some (.cells (cs.setIfInBounds i v) T z):=by
 unfold World.setCell
 simp only [Array.getElem?_modify,h,if_true]
 rfl
theorem marked_cell {w : World} {b i : Nat} {cs : Array Value} {T : TypeId} {z : Nat × Nat} {v : Value} (h : w.heap[b]? = some (.cells cs T z)) (hv : cs[i]? = some v) : w.cell? ⟨b,i,none⟩ = some v:=(cell_of_row w b i cs T z h).trans hv
theorem marked_free {w : World} {b i : Nat} {cs : Array Value} {T : TypeId} {z : Nat × Nat} (h : w.heap[b]? = some (.cells cs T z)) (hz : i < z.1) : w.frozen? ⟨b,i,none⟩ = false:=by
 unfold World.frozen?
 rw [h]
 obtain ⟨z1,z2⟩:=z
 show (decide (z1 ≤ i) && decide (i < z2)) = false
 rw [decide_eq_false (by dsimp only at hz;omega)];rfl
theorem bytesRow_gd (s : ByteArray) (cap : Nat) {j : Nat} (hj : j < s.size) : (bytesRow s cap)[j]? = some (.int .u8 (rea.gd (rea.bytesOf s) j)):=by
 rw [bytesRow_at s cap j hj,rea.bytesOf_get s j hj];rfl
def badL (k L : Nat) (z : Int) : List Int:=(cRow (cAt 3 k) L L).set (L - 1) z
theorem bad_len (k L : Nat) (z : Int) : (badL k L z).length = L:=by unfold badL;rw [List.length_set,cRow_length]
theorem con_walk (b0 b1 b2 b3 : Int) (h0 : 0 ≤ b0 ∧ b0 ≤ 255) (h1 : 0 ≤ b1 ∧ b1 ≤ 255) (h2 : 0 ≤ b2 ∧ b2 ≤ 255) (h3 : 0 ≤ b3 ∧ b3 ≤ 255) {w : World} {a0 a1 a2 a3 : Addr} (hE : rea.Errs w a0 a1 a2 a3) (hA : rea.Apt w a0 a1) : Calls Tryz.prog 6 #[.int .u8 b0,.int .u8 b1,.int .u8 b2,.int .u8 b3] w fun e w'=>e = .returned (.bool true) ∧ Below w.heap.size w w':=by
 have SN:=Lib.hid (sane_any hE hA)
 have EA:=Lib.hid (And.intro hE hA)
 have HB:=Lib.hid (And.intro h0 (And.intro h1 (And.intro h2 h3)))
 clear hE hA h0 h1 h2 h3
 go_enter Tryz.func6,Tryz.ntmps6
 go_upto_region 3 with (go_at_call 16;refine SN.out.mono ?_;rintro e w0 ⟨rfl,hb⟩;have B0:=Lib.hid hb;clear hb)
 clear SN
 have X:=Lib.hid (box1 w0 (.cells #[.int .i64 1000,.int .i64 500,.int .i64 4,.int .i64 4,.int .i64 0,.int .i64 0] 24))
 have ER:=Lib.hid (And.intro ((EA.out.1.below B0.out).below X.out.2) ((EA.out.2.below B0.out).below X.out.2))
 have XB:=Lib.hid (btr2 B0.out X.out.2)
 clear EA B0
 go_upto_region 4 with (fail)
 obtain ⟨X1,X2⟩:=X.out
 obtain ⟨b,hb⟩ : ∃ b,w0.heap.size = b:=⟨_,rfl⟩
 rw [hb] at X1 ⊢
 clear X hb X2
 generalize World.alloc _ _ = W at *
 have q0 : W.cell? ⟨b,0,none⟩ = some (.int .i64 1000):=at_whole' X1 rfl
 have q1 : W.cell? ⟨b,1,none⟩ = some (.int .i64 500):=at_whole' X1 rfl
 have q2 : W.cell? ⟨b,2,none⟩ = some (.int .i64 4):=at_whole' X1 rfl
 have q3 : W.cell? ⟨b,3,none⟩ = some (.int .i64 4):=at_whole' X1 rfl
 have q4 : W.cell? ⟨b,4,none⟩ = some (.int .i64 0):=at_whole' X1 rfl
 have q5 : W.cell? ⟨b,5,none⟩ = some (.int .i64 0):=at_whole' X1 rfl
 clear X1
 have NW:=Lib.hid (con_new (Below.refl W.heap.size W))
 go_upto_region 7 with (go_at_call 17;refine NW.out.mono ?_;rintro e w1 ⟨a,rfl,hM⟩;have M1:=Lib.hid hM;clear hM NW q0 q1 q2 q3 q4 q5)
 go_upto_region 8 with (fail)
 have en : ∃ n : Nat,wrap64 (1 + (wrap64 b0).tmod 100) = (n : Int) ∧ (wrap64 b0).tmod 100 = (n : Int) - 1 ∧ 1 ≤ n ∧ n ≤ 100:=by
  have hw : wrap64 b0 = b0:=by
   have:=HB.out.1
   unfold wrap64
   omega
  have h2:=Int.tmod_nonneg 100 HB.out.1.1
  have h3:=Int.tmod_lt_of_pos b0 (show (0 : Int) < 100 by decide)
  rw [hw]
  refine ⟨(1 + b0.tmod 100).toNat,?_,by omega,by omega,by omega⟩
  unfold wrap64
  omega
 obtain ⟨n,hn,hn0,hn1,hn2⟩:=en
 rw [hn,hn0]
 have HN:=Lib.hid (And.intro hn1 hn2)
 clear hn hn0 hn1 hn2
 have C1:=Lib.hid (show Calls Tryz.prog 20 #[.int .i64 3,.int .i64 0,.int .i64 n] w1 _ from content_any 3 0 n w1 (by omega) (by omega) (by have:=HN.out;omega))
 go_upto_region 9 with (go_at_call 20;refine C1.out.mono ?_;rintro e w2 ⟨rfl,hb⟩;have M2:=Lib.hid (M1.out.same hb);clear hb M1)
 clear C1
 have HD:=Lib.hid (cont_size 3 0 n)
 have HDb:=Lib.hid (show ∀ k,k < n → rea.gd (rea.bytesOf (cont 3 0 n)) k = cAt 3 0 k from fun k hk=>(gd_strOf (cont_rng 3 0 n) (by rw [cRow_length];exact hk)).trans (cRow_at _ hk))
 obtain ⟨D,hD⟩ : ∃ D,cont 3 0 n = D:=⟨_,rfl⟩
 rw [hD] at HD HDb ⊢
 clear hD
 have z1 : ¬ ((n : Int) = 0):=by have:=HN.out;omega
 have z2 : ¬ (n = 0):=by have:=HN.out;omega
 go_upto_region 10 with (fail)
 clear z1 z2
 have ek : ∃ k : Nat,(wrap64 b1).tmod (n : Int) = (k : Int) ∧ k < n:=by
  have hw : wrap64 b1 = b1:=by
   have:=HB.out.2.1
   unfold wrap64
   omega
  have h2:=Int.tmod_nonneg (n : Int) HB.out.2.1.1
  have h3:=Int.tmod_lt_of_pos b1 (show (0 : Int) < n by have:=HN.out;omega)
  rw [hw]
  exact ⟨(b1.tmod n).toNat,by omega,by omega⟩
 obtain ⟨k,hk,hkn⟩:=ek
 rw [hk]
 clear hk
 obtain ⟨m,hm⟩ : ∃ m : Nat,n - k = m:=⟨_,rfl⟩
 have el : ∃ l : Nat,(wrap64 b3).tmod (m : Int) = (l : Int) ∧ l < m:=by
  have hw : wrap64 b3 = b3:=by
   have:=HB.out.2.2.2
   unfold wrap64
   omega
  have h2:=Int.tmod_nonneg (m : Int) HB.out.2.2.2.1
  have h3:=Int.tmod_lt_of_pos b3 (show (0 : Int) < m by omega)
  rw [hw]
  exact ⟨(b3.tmod m).toNat,by omega,by omega⟩
 obtain ⟨l,hl,hlm⟩:=el
 have wr1 : IntKind.i64.wrap ((n : Int) - (k : Int)) = (m : Int):=by rw [IntWalk.i64_in _ (by have:=HN.out;omega)];omega
 have wr2 : IntKind.i64.wrap (1 + (l : Int)) = ((l + 1 : Nat) : Int):=by rw [IntWalk.i64_in _ (by have:=HN.out;omega)];omega
 have z1 : ¬ ((m : Int) = 0):=by omega
 have z2 : ¬ (m = 0):=by omega
 have HK:=Lib.hid (And.intro hkn (And.intro hm hlm))
 clear hkn hm hlm
 obtain ⟨L,hL⟩ : ∃ L,l + 1 = L:=⟨_,rfl⟩
 rw [hL] at wr2
 have HL:=Lib.hid hL
 clear hL
 have C2:=Lib.hid (show Calls Tryz.prog 20 #[.int .i64 3,.int .i64 k,.int .i64 L] w2 _ from content_any 3 k L w2 (by omega) (by have:=HN.out;have:=HK.out;omega) (by have:=HN.out;have:=HK.out;have:=HL.out;omega))
 have cv : ∀ (w : World) (s : ByteArray),(convert 9 52 (.string s)).run Tryz.prog w = .ok (.slice (some ⟨w.heap.size,0,none⟩) s.size (grownCap w s.size 0 5)) (w.drew.alloc (.cells (bytesRow s (grownCap w s.size 0 5)) 5 ((bytesRow s (grownCap w s.size 0 5)).size,(bytesRow s (grownCap w s.size 0 5)).size + 1))):=fun w s=>run_bytes_of_string w 9 52 5 s Tryz.underlying9 Tryz.underlying52 Tryz.underlying5
 go_upto_region 11 with (go_at_call 20;refine C2.out.mono ?_;rintro e w3 ⟨rfl,hb⟩;have M3:=Lib.hid (M2.out.same hb);clear hb M2)
 have hs : (cont 3 k L).size = L:=cont_size 3 k L
 have HS:=Lib.hid (show ∀ j,j < L → rea.gd (rea.bytesOf (cont 3 k L)) j = cAt 3 k j from fun j hj=>(gd_strOf (cont_rng 3 k L) (by rw [cRow_length];exact hj)).trans (cRow_at _ hj))
 obtain ⟨cap,hcap⟩ : ∃ cap,grownCap w3 (cont 3 k L).size 0 5 = cap:=⟨_,rfl⟩
 rw [hcap,hs]
 clear hcap
 obtain ⟨C,hC⟩ : ∃ C,bytesRow (cont 3 k L) cap = C:=⟨_,rfl⟩
 have CC:=Lib.hid (show ∀ j,j < L → C[j]? = some (.int .u8 (cAt 3 k j)) from fun j hj=>by rw [← hC,bytesRow_gd _ _ (by rw [hs];exact hj),HS.out j hj])
 rw [hC]
 clear hC hs HS cv
 have Y:=Lib.hid (show ((w3.alloc (.cells C 5 (C.size,C.size + 1))).drew).heap[w3.heap.size]? = some (.cells C 5 (C.size,C.size + 1)) ∧ Below w3.heap.size w3 (w3.alloc (.cells C 5 (C.size,C.size + 1))).drew from ⟨heap_alloc_new w3 _,(bz0.alloc (Nat.le_refl _) _).drew⟩)
 obtain ⟨c,hc⟩ : ∃ c,w3.heap.size = c:=⟨_,rfl⟩
 rw [hc] at Y ⊢
 have HC:=Lib.hid hc
 clear hc
 generalize World.drew _ = w4 at *
 have hL1 : L - 1 < C.size:=by
  have:=CC.out (L - 1) (by have:=HL.out;omega)
  exact (Array.getElem?_eq_some_iff.mp this).1
 have HCs:=Lib.hid hL1
 have g1 : w4.cell? ⟨c,L - 1,none⟩ = some (.int .u8 (cAt 3 k (L - 1))):=marked_cell Y.out.1 (CC.out _ (by have:=HL.out;omega))
 have g2 : w4.frozen? ⟨c,L - 1,none⟩ = false:=marked_free Y.out.1 hL1
 clear hL1
 obtain ⟨x,hx⟩ : ∃ x,cAt 3 k (L - 1) = x:=⟨_,rfl⟩
 have HX:=Lib.hid (And.intro hx (hx ▸ cAt_byte 3 k (L - 1)))
 rw [hx] at g1
 clear hx
 have ey : ∃ y : Int,IntKind.u8.wrap (1 + b2.tmod 255) = y ∧ 1 ≤ y ∧ y ≤ 255:=by
  have h2:=Int.tmod_nonneg 255 HB.out.2.2.1.1
  have h3:=Int.tmod_lt_of_pos b2 (show (0 : Int) < 255 by decide)
  exact ⟨1 + b2.tmod 255,IntWalk.u8_in _ (by omega),by omega,by omega⟩
 obtain ⟨y,hy,hy1⟩:=ey
 obtain ⟨z,hz,hz1⟩:=xor_other x y (by have:=HX.out.2;omega) hy1
 have HZ:=Lib.hid hz1
 clear hz1 hy1
 have wl : IntKind.i64.wrap ((L : Int) - 1) = ((L - 1 : Nat) : Int):=by rw [IntWalk.i64_in _ (by have:=HL.out;have:=HK.out;have:=HN.out;omega)];have:=HL.out;omega
 have d1 : ((L : Int) - 1 < 0) = False:=eq_false (by have:=HL.out;omega)
 have d2 : ((L - 1 : Nat) : Int) < L:=by have:=HL.out;omega
 have d3 : L - 1 < L:=by have:=HL.out;omega
 go_upto_region 12 with (fail)
 clear wl d1 d2 d3 hy hz g1 g2 wr1 wr2 z1 z2
 have y5:=marked_set (i:=L - 1) (.int .u8 z) Y.out.1
 have B5 : Below c w3 (w4.setCell ⟨c,L - 1,none⟩ (.int .u8 z)):=by
  have:=Y.out.2
  rw [← HC.out] at this ⊢
  exact this.setCell (p:=⟨w3.heap.size,L - 1,none⟩) (Nat.le_refl _) _
 have CC2:=Lib.hid (show ∀ j,j < L → (C.setIfInBounds (L - 1) (.int .u8 z))[j]? = some (.int .u8 ((badL k L z)[j]?.getD 0)) from fun j hj=>by
  rw [Array.getElem?_setIfInBounds]
  unfold badL
  rw [List.getElem?_set,cRow_length]
  by_cases e : L - 1 = j
  ·rw [if_pos e,if_pos e,if_pos HCs.out,if_pos (by omega)];rfl
  ·rw [if_neg e,if_neg e,CC.out j hj,cRow_at _ hj])
 obtain ⟨C',hC'⟩ : ∃ C',C.setIfInBounds (L - 1) (.int .u8 z) = C':=⟨_,rfl⟩
 rw [hC'] at y5 CC2
 clear hC' HCs CC
 obtain ⟨mk,hmk⟩ : ∃ mk,(C.size,C.size + 1) = mk:=⟨_,rfl⟩
 rw [hmk] at y5
 have M5:=Lib.hid (M3.out.lay (HC.out ▸ B5) (Nat.le_of_eq HC.out) y5)
 clear Y hmk y5 B5 M3 HC
 generalize World.setCell _ _ _ = w5 at *
 have cv : ∀ w : World,w.heap[c]? = some (.cells C' 5 mk) → (convert 52 9 (.slice (some ⟨c,0,none⟩) L cap)).run Tryz.prog w = .ok (.string (strOfNums (badL k L z))) w:=fun w hw=>run_convert_bytes_arg w 52 5 Tryz.underlying52 Tryz.underlying5 c 0 L cap (badL k L z) (bad_len _ _ _) (fun i hi=>by
  rw [Nat.zero_add,List.getD_eq_getElem?_getD]
  exact marked_cell hw (CC2.out i hi)) 9 Tryz.underlying9
 have hBs : (strOfNums (badL k L z)).size = L:=by rw [strOfNums_size,bad_len]
 have hBz : rea.gd (rea.bytesOf (strOfNums (badL k L z))) (L - 1) = z:=by
  have hrng : ∀ x ∈ badL k L z,0 ≤ x ∧ x ≤ 255:=fun x hx=>by
   unfold badL at hx
   rcases List.mem_or_eq_of_mem_set hx with h | h
   ·exact cont_rng 3 k L x h
   ·rw [h];exact HZ.out.2
  rw [gd_strOf hrng (by rw [bad_len];have:=HL.out;omega)]
  unfold badL rea.gd
  rw [List.getElem?_set,cRow_length,if_pos rfl,if_pos (by have:=HL.out;omega)]
  rfl
 obtain ⟨B,hB⟩ : ∃ B,strOfNums (badL k L z) = B:=⟨_,rfl⟩
 rw [hB] at hBs hBz cv
 have CV:=Lib.hid cv
 have HBB:=Lib.hid (And.intro hBs hBz)
 clear cv hB hBs hBz CC2
 have K1:=Lib.hid (show Calls Tryz.prog 24 #[.pointer (some ⟨a.sb,0,none⟩),.agg #[.int .i64 8,.int .i64 3,.int .i64 0,.string D,.bool false,.int .i64 0,.int .i64 0,.bool false,.int .i64 0,.slice none 0 0,.int .i64 0,.int .i64 0,.string { data:=#[] }]] w5 (fun e w'=>e = .returned (.int .i64 0) ∧ CoOk D W w' a [(c,.cells C' 5 mk)]) from co_first M5.out (by rw [HD.out];exact HN.out.2) ER.out.1 ER.out.2)
 have K2:=Lib.hid (fun (wx : World) (h : CoOk D W wx a [(c,.cells C' 5 mk)])=>(show Calls Tryz.prog 24 #[.pointer (some ⟨a.sb,0,none⟩),.agg #[.int .i64 8,.int .i64 3,.int .i64 k,.string B,.bool false,.int .i64 0,.int .i64 0,.bool false,.int .i64 0,.slice none 0 0,.int .i64 0,.int .i64 0,.string { data:=#[] }]] wx (fun e w'=>e = .returned (.int .i64 160) ∧ CoOk D W w' a [(c,.cells C' 5 mk)]) from co_conf h (by rw [HD.out];exact HN.out.2) (by rw [HBB.out.1];have:=HL.out;omega) (by rw [HBB.out.1,HD.out];have:=HK.out;have:=HL.out;omega) (by
  rw [HBB.out.1,HBB.out.2,HDb.out _ (by have:=HK.out;have:=HL.out;omega)]
  have e1 : cAt 3 0 (k + L - 1) = cAt 3 k (L - 1):=by
   unfold cAt
   rw [show 0 + (k + L - 1) = k + (L - 1) from by have:=HL.out;omega]
  rw [e1,HX.out.1]
  exact HZ.out.1) ER.out.1 ER.out.2))
 have K3:=Lib.hid (fun (wx : World) (h : CoOk D W wx a [(c,.cells C' 5 mk)])=>(show Calls Tryz.prog 26 #[.pointer (some ⟨a.sb,0,none⟩),.int .i64 3,.int .i64 1000] wx (fun e w'=>e = .returned (.tuple #[.string D,.bool false,.int .i64 0]) ∧ Below W.heap.size W w') from co_read h (by rw [HD.out];exact HN.out.2)))
 clear HDb HX HZ HBB M5 ER
 have T1:=Lib.hid True.intro
 go_upto_region 14 with (first
  | (go_at_call 24;have T0:=T1.out;clear T0 T1;refine K1.out.mono ?_;rintro e w6 ⟨rfl,hF⟩;have F6:=Lib.hid hF;clear hF;have cv2:=CV.out w6 (F6.out.row (x:=(c,.cells C' 5 mk)) (by simp)))
  | (go_at_call 24;refine (K2.out _ F6.out).mono ?_;rintro e w7 ⟨rfl,hF⟩;have F7:=Lib.hid hF;clear hF F6 cv2))
 go_upto_region 15 with (go_at_call 26;refine (K3.out _ F7.out).mono ?_;rintro e w8 ⟨rfl,hF⟩;have F8:=Lib.hid (btr2 XB.out hF);clear hF F7)
 go_wp2
 go_ret
 exact ⟨rfl,F8.out⟩
end
end Go.Proofs.YthckbmcmdcemkaaGreatDoor.stm
namespace Go.Proofs.YthckbmcmdcemkaaGreatDoor.streamsConflict
section
open Go.RowKit Go.WideShapes Go.ChangeShapes
theorem main {H : Type} {enc : TypeId × Value → H} (W : World) (ad : Addr × Addr × Addr × Addr) (hl : Laid ad W) (d0 d1 d2 d3 : DataW H) (_hw : (DataW.weightsEach Tryz.prog [5,5,5,5] [d0,d1,d2,d3]).all (· ≤ reachBytes) = true)
  (b0 : Nat) (v0 : Value) (p0 : List MemPlace) (k0 : Value.okWide Tryz.prog W .any b0 5 v0) (h0 : DataW.Trod enc Tryz.prog W 0 (fun _=>true) true 5 v0 d0 p0)
  (b1 : Nat) (v1 : Value) (p1 : List MemPlace) (k1 : Value.okWide Tryz.prog W .any b1 5 v1) (h1 : DataW.Trod enc Tryz.prog W 0 (fun _=>true) true 5 v1 d1 p1)
  (b2 : Nat) (v2 : Value) (p2 : List MemPlace) (k2 : Value.okWide Tryz.prog W .any b2 5 v2) (h2 : DataW.Trod enc Tryz.prog W 0 (fun _=>true) true 5 v2 d2 p2)
  (b3 : Nat) (v3 : Value) (p3 : List MemPlace) (k3 : Value.okWide Tryz.prog W .any b3 5 v3) (h3 : DataW.Trod enc Tryz.prog W 0 (fun _=>true) true 5 v3 d3 p3) :
  Calls Tryz.prog 6 #[v0,v1,v2,v3] W fun e w'=>e = .returned (.bool true) ∧ Below W.heap.size W w':=by
 obtain ⟨a0,rfl,_,_,w0⟩:=open_int Tryz.underlying5 k0 h0
 obtain ⟨a1,rfl,_,_,w1⟩:=open_int Tryz.underlying5 k1 h1
 obtain ⟨a2,rfl,_,_,w2⟩:=open_int Tryz.underlying5 k2 h2
 obtain ⟨a3,rfl,_,_,w3⟩:=open_int Tryz.underlying5 k3 h3
 exact stm.con_walk a0 a1 a2 a3 (bounds_u8 w0) (bounds_u8 w1) (bounds_u8 w2) (bounds_u8 w3) hl.1 hl.2
end
end Go.Proofs.YthckbmcmdcemkaaGreatDoor.streamsConflict
