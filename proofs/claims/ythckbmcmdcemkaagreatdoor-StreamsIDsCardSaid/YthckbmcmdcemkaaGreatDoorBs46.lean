/- Texts of this claim, one behind the other: We Wf Wg. -/
import Derived.Test.YthckbmcmdcemkaaGreatDoorBs44
import Derived.Test.YthckbmcmdcemkaaGreatDoorBs41
set_option maxRecDepth 100000
set_option maxHeartbeats 16000000
set_option linter.unusedSimpArgs false
set_option linter.unusedVariables false
namespace Go.Proofs.YthckbmcmdcemkaaGreatDoor.stm
section
open Go.RowKit
def gP : Pms:=⟨1000,100,64,64,0,0⟩
def lo (cl : Bool) : Nat:=if cl then 0 else 1
def inO (o0 o1 q : Nat) : Bool:=decide (q / 2 < if q % 2 = 0 then o0 else o1)
def dO (psd : Int) (e : Bool) : OutP:=⟨⟨8192,[],[],true,if e then 1 else 0⟩,⟨psd,0,0⟩,if e then 2 else 0,true,0,false,[],-1⟩
def dX (cl : Bool) (psd : Int) (e : Bool) (q : Nat) : Strm:=⟨2 * q + lo cl,some (dO psd e),if q % 2 = 0 then some (newIn 100) else none,false⟩
def nX (cl : Bool) (psd : Int) (q : Nat) : Strm:=⟨2 * q + lo cl,some (newOut psd),if q % 2 = 0 then some (newIn 100) else none,false⟩
theorem nX_new (cl : Bool) (psd : Int) (q : Nat) : newStrm cl psd 100 (2 * q + lo cl) = nX cl psd q:=by
 have h2 : (2 * q + lo cl) / 2 % 2 = q % 2:=by unfold lo;split <;> omega
 have h1 : isLoc cl (2 * q + lo cl) = true:=by
  unfold isLoc lo
  cases cl
  ·have : ((2 * q + 1) % 2 == 0) = false:=by
    have : (2 * q + 1) % 2 = 1:=by omega
    rw [this];rfl
   simp only [Bool.false_eq_true,if_false,this]
   rfl
  ·have : ((2 * q + 0) % 2 == 0) = true:=by
    have : (2 * q + 0) % 2 = 0:=by omega
    rw [this];rfl
   simp only [if_true,this]
   rfl
 unfold newStrm hasO hasI kindN nX
 rw [h1,h2]
 by_cases e : q % 2 = 0
 ·rw [if_pos e,decide_eq_true e];rfl
 ·rw [if_neg e,decide_eq_false e];rfl
theorem nX_wc (cl : Bool) (psd : Int) (q : Nat) : wcE (nX cl psd q) = 0 ∧ fnS (nX cl psd q) = dX cl psd false q:=⟨rfl,rfl⟩
def iS (cl : Bool) (x : Pms) (o0 o1 : Nat) (b0 b1 : Bool) (r0 r1 : Int) (f : Nat → Bool) (sv : Int) : SetP:={ newP cl gP x with ss:=slots 8 (inO o0 o1) (fun q=>dX cl x.sdata (f q) q),g0:=⟨o0,0,x.bidi,64,0,false,b0,r0⟩,g1:=⟨o1,0,x.uni,64,0,false,b1,r1⟩,srv:=sv }
def nof : Nat → Bool:=fun _=>false
def iN (cl : Bool) (x : Pms) (o0 o1 n0 n1 : Nat) (b0 b1 : Bool) (r0 r1 : Int) (q : Nat) : SetP:={ newP cl gP x with ss:=slots 8 (addS (inO o0 o1) q) (putS (fun q=>dX cl x.sdata false q) q (nX cl x.sdata q)),g0:=⟨n0,0,x.bidi,64,0,false,b0,r0⟩,g1:=⟨n1,0,x.uni,64,0,false,b1,r1⟩ }
theorem dX_id (cl : Bool) (psd : Int) (e : Bool) (q : Nat) : (dX cl psd e q).id = 2 * q + lo cl:=rfl
theorem inO_0 (o0 o1 : Nat) : inO o0 o1 (2 * o0) = false:=by
 unfold inO
 rw [if_pos (by omega)]
 exact decide_eq_false (by omega)
theorem inO_1 (o0 o1 : Nat) : inO o0 o1 (2 * o1 + 1) = false:=by
 unfold inO
 rw [if_neg (by omega)]
 exact decide_eq_false (by omega)
theorem inO_add0 (o0 o1 k : Nat) : addS (inO o0 o1) (2 * o0) k = inO (o0 + 1) o1 k:=by
 unfold addS inO
 rw [Bool.eq_iff_iff]
 simp only [Bool.or_eq_true,decide_eq_true_eq,beq_iff_eq]
 split <;> omega
theorem inO_add1 (o0 o1 k : Nat) : addS (inO o0 o1) (2 * o1 + 1) k = inO o0 (o1 + 1) k:=by
 unfold addS inO
 rw [Bool.eq_iff_iff]
 simp only [Bool.or_eq_true,decide_eq_true_eq,beq_iff_eq]
 split <;> omega
section
variable {W w w' : World} {a : SetA} {R : List (Nat × Obj)} {cl : Bool} {x : Pms} {o0 o1 : Nat} {b0 b1 : Bool} {r0 r1 : Int}
theorem iS_ids {f : Nat → Bool} {sv : Int} {q : Nat} (hP : inO o0 o1 q = false) : ∀ e ∈ (iS cl x o0 o1 b0 b1 r0 r1 f sv).ss,e.id ≠ 2 * q + lo cl:=by
 intro e he h
 obtain ⟨k,h1,h2,rfl⟩:=slots_mem he
 rw [dX_id] at h
 have : k = q:=by omega
 rw [this,hP] at h2
 cases h2
theorem iS_len {f : Nat → Bool} {sv : Int} : (iS cl x o0 o1 b0 b1 r0 r1 f sv).ss.length ≤ 8:=slots_len
theorem ins_new {q : Nat} (hq : q < 8) (hP : inO o0 o1 q = false) : insP (newStrm cl x.sdata 100 (2 * q + lo cl)) (slots 8 (inO o0 o1) (fun q=>dX cl x.sdata (nof q) q)) = slots 8 (addS (inO o0 o1) q) (putS (fun q=>dX cl x.sdata false q) q (nX cl x.sdata q)):=by
 rw [nX_new]
 exact slots_ins hq hP (lo cl) (fun k=>rfl) rfl
theorem ids_open0 (h : Mn W w a (iS cl x o0 o1 b0 b1 r0 r1 nof (-1)) R) (hc : (o0 : Int) < x.bidi) (ho : o0 < 4) (hx : 0 ≤ x.sdata ∧ x.sdata ≤ 1000) :
  Calls Tryz.prog 18 #[ptr a.sb,.bool false] w fun e w'=>e = .returned (.tuple #[.int .i64 ((2 * (2 * o0) + lo cl : Nat) : Int),.int .i64 0]) ∧ Mn W w' a (iN cl x o0 o1 (o0 + 1) o1 b0 b1 r0 r1 (2 * o0)) R:=by
 have hi:=iS_ids (cl:=cl) (x:=x) (b0:=b0) (b1:=b1) (r0:=r0) (r1:=r1) (f:=nof) (sv:=-1) (inO_0 o0 o1)
 have hl:=iS_len (cl:=cl) (x:=x) (b0:=b0) (b1:=b1) (r0:=r0) (r1:=r1) (f:=nof) (sv:=-1) (o0:=o0) (o1:=o1)
 have hn:=ins_new (cl:=cl) (x:=x) (show 2 * o0 < 8 by omega) (inO_0 o0 o1)
 cases cl with
 | true=>
  have e0 : 2 * (2 * o0) + lo true = 4 * o0 + 0:=by unfold lo;simp;omega
  rw [e0] at hi hn ⊢
  refine (mn_open0c h hc o0 rfl (by omega) rfl hx.1 (by show x.sdata ≤ _;omega) 100 rfl (by decide) hi (by omega)).mono fun e w' hh=>⟨hh.1,?_⟩
  have h2:=hh.2
  have e1 : ({ iS true x o0 o1 b0 b1 r0 r1 nof (-1) with g0:=incG (iS true x o0 o1 b0 b1 r0 r1 nof (-1)).g0,ss:=insP (newStrm true x.sdata 100 (4 * o0 + 0)) (slots 8 (inO o0 o1) (fun q=>dX true x.sdata (nof q) q)) } : SetP) = iN true x o0 o1 (o0 + 1) o1 b0 b1 r0 r1 (2 * o0):=by
   rw [hn];rfl
  rw [← e1];exact h2
 | false=>
  have e0 : 2 * (2 * o0) + lo false = 4 * o0 + 1:=by unfold lo;simp;omega
  rw [e0] at hi hn ⊢
  refine (mn_open0s h hc o0 rfl (by omega) rfl hx.1 (by show x.sdata ≤ _;omega) 100 rfl (by decide) hi (by omega)).mono fun e w' hh=>⟨hh.1,?_⟩
  have h2:=hh.2
  have e1 : ({ iS false x o0 o1 b0 b1 r0 r1 nof (-1) with g0:=incG (iS false x o0 o1 b0 b1 r0 r1 nof (-1)).g0,ss:=insP (newStrm false x.sdata 100 (4 * o0 + 1)) (slots 8 (inO o0 o1) (fun q=>dX false x.sdata (nof q) q)) } : SetP) = iN false x o0 o1 (o0 + 1) o1 b0 b1 r0 r1 (2 * o0):=by
   rw [hn];rfl
  rw [← e1];exact h2
theorem ids_open1 (h : Mn W w a (iS cl x o0 o1 b0 b1 r0 r1 nof (-1)) R) (hc : (o1 : Int) < x.uni) (ho : o1 < 4) (hx : 0 ≤ x.sdata ∧ x.sdata ≤ 1000) :
  Calls Tryz.prog 18 #[ptr a.sb,.bool true] w fun e w'=>e = .returned (.tuple #[.int .i64 ((2 * (2 * o1 + 1) + lo cl : Nat) : Int),.int .i64 0]) ∧ Mn W w' a (iN cl x o0 o1 o0 (o1 + 1) b0 b1 r0 r1 (2 * o1 + 1)) R:=by
 have hi:=iS_ids (cl:=cl) (x:=x) (b0:=b0) (b1:=b1) (r0:=r0) (r1:=r1) (f:=nof) (sv:=-1) (inO_1 o0 o1)
 have hl:=iS_len (cl:=cl) (x:=x) (b0:=b0) (b1:=b1) (r0:=r0) (r1:=r1) (f:=nof) (sv:=-1) (o0:=o0) (o1:=o1)
 have hn:=ins_new (cl:=cl) (x:=x) (show 2 * o1 + 1 < 8 by omega) (inO_1 o0 o1)
 cases cl with
 | true=>
  have e0 : 2 * (2 * o1 + 1) + lo true = 4 * o1 + 2:=by unfold lo;simp;omega
  rw [e0] at hi hn ⊢
  refine (mn_open1c h hc o1 rfl (by omega) rfl hx.1 (by show x.sdata ≤ _;omega) 100 rfl (by decide) hi (by omega)).mono fun e w' hh=>⟨hh.1,?_⟩
  have h2:=hh.2
  have e1 : ({ iS true x o0 o1 b0 b1 r0 r1 nof (-1) with g1:=incG (iS true x o0 o1 b0 b1 r0 r1 nof (-1)).g1,ss:=insP (newStrm true x.sdata 100 (4 * o1 + 2)) (slots 8 (inO o0 o1) (fun q=>dX true x.sdata (nof q) q)) } : SetP) = iN true x o0 o1 o0 (o1 + 1) b0 b1 r0 r1 (2 * o1 + 1):=by
   rw [hn];rfl
  rw [← e1];exact h2
 | false=>
  have e0 : 2 * (2 * o1 + 1) + lo false = 4 * o1 + 3:=by unfold lo;simp;omega
  rw [e0] at hi hn ⊢
  refine (mn_open1s h hc o1 rfl (by omega) rfl hx.1 (by show x.sdata ≤ _;omega) 100 rfl (by decide) hi (by omega)).mono fun e w' hh=>⟨hh.1,?_⟩
  have h2:=hh.2
  have e1 : ({ iS false x o0 o1 b0 b1 r0 r1 nof (-1) with g1:=incG (iS false x o0 o1 b0 b1 r0 r1 nof (-1)).g1,ss:=insP (newStrm false x.sdata 100 (4 * o1 + 3)) (slots 8 (inO o0 o1) (fun q=>dX false x.sdata (nof q) q)) } : SetP) = iN false x o0 o1 o0 (o1 + 1) b0 b1 r0 r1 (2 * o1 + 1):=by
   rw [hn];rfl
  rw [← e1];exact h2
theorem ids_fin {n0 n1 q : Nat} (hq : q < 8) (hN : ∀ k,addS (inO o0 o1) q k = inO n0 n1 k) (h : Mn W w a (iN cl x o0 o1 n0 n1 b0 b1 r0 r1 q) R) :
  Calls Tryz.prog 23 #[ptr a.sb,.int .i64 ((2 * q + lo cl : Nat) : Int)] w fun e w'=>e = .returned (.int .i64 0) ∧ Mn W w' a (iS cl x n0 n1 b0 b1 r0 r1 nof (-1)) R:=by
 have hP : addS (inO o0 o1) q q = true:=by simp [addS]
 have hs : (iN cl x o0 o1 n0 n1 b0 b1 r0 r1 q).ss = lowS q (addS (inO o0 o1) q) (putS (fun q=>dX cl x.sdata false q) q (nX cl x.sdata q)) ++ nX cl x.sdata q :: highS 8 q (addS (inO o0 o1) q) (putS (fun q=>dX cl x.sdata false q) q (nX cl x.sdata q)):=by
  refine (slots_at hq hP).trans ?_
  unfold putS
  rw [if_pos rfl]
 refine (mn_finish h hs).mono fun e w' hh=>?_
 rw [(nX_wc cl x.sdata q).1,(nX_wc cl x.sdata q).2,slots_put hq hP] at hh
 refine ⟨hh.1,?_⟩
 have e1 : slots 8 (addS (inO o0 o1) q) (putS (putS (fun q=>dX cl x.sdata false q) q (nX cl x.sdata q)) q (dX cl x.sdata false q)) = slots 8 (inO n0 n1) (fun q=>dX cl x.sdata (nof q) q):=by
  refine slots_congr (fun k _=>⟨hN k,fun _=>?_⟩)
  unfold putS nof
  by_cases e : k = q
  ·subst e;rw [if_pos rfl]
  ·rw [if_neg e,if_neg e]
 rw [e1] at hh
 exact hh.2
theorem ids_no0 (h : Mn W w a (iS cl x o0 o1 b0 b1 r0 r1 nof (-1)) R) (hc : x.bidi ≤ (o0 : Int)) :
  Calls Tryz.prog 18 #[ptr a.sb,.bool false] w fun e w'=>e = .returned (.tuple #[.int .i64 0,.int .i64 191]) ∧ Mn W w' a (iS cl x o0 o1 (b0 || (r0 != x.bidi)) b1 x.bidi r1 nof (-1)) R:=mn_open_no0 h hc
theorem ids_no1 (h : Mn W w a (iS cl x o0 o1 b0 b1 r0 r1 nof (-1)) R) (hc : x.uni ≤ (o1 : Int)) :
  Calls Tryz.prog 18 #[ptr a.sb,.bool true] w fun e w'=>e = .returned (.tuple #[.int .i64 0,.int .i64 191]) ∧ Mn W w' a (iS cl x o0 o1 b0 (b1 || (r1 != x.uni)) r0 x.uni nof (-1)) R:=mn_open_no1 h hc
theorem iS_good {f : Nat → Bool} {sv : Int} (h0 : o0 ≤ 4) (h1 : o1 ≤ 4) (hs : 0 ≤ x.sdata ∧ x.sdata ≤ 1000) (hd : 0 ≤ x.data ∧ x.data ≤ 1000) (hb : 0 ≤ x.bidi ∧ x.bidi ≤ 4) (hu : 0 ≤ x.uni ∧ x.uni ≤ 4) : FGood (iS cl x o0 o1 b0 b1 r0 r1 f sv):=by
 refine ⟨fun e he=>?_,?_,?_,?_,?_,?_,?_,?_⟩
 ·obtain ⟨k,_,_,rfl⟩:=slots_mem he
  refine ⟨fun o ho=>?_,fun i hi=>?_⟩
  ·injection ho with ho
   subst ho
   refine ⟨(by show (0 : Int) ≤ 0 ∧ (0 : Int) ≤ 1073741823;decide),⟨by show (0 : Int) ≤ 0;decide,hs.1,by show x.sdata ≤ maxOff;unfold maxOff;omega⟩,⟨by show (-1 : Int) ≤ 0;decide,by show (0 : Int) ≤ _;decide⟩,?_⟩
   cases f k <;> (show ((0 : Nat) : Int) ≤ 0;decide)
  ·have hi : (if k % 2 = 0 then some (newIn 100) else none) = some i:=hi
   split at hi
   ·injection hi with hi
    subst hi
    decide
   ·cases hi
 ·show 0 ≤ (o0 : Int) ∧ (o0 : Int) ≤ 1000000000 ∧ (0 : Int) ≤ 0 ∧ (0 : Int) ≤ 1000000000 ∧ (0 : Int) ≤ 64 ∧ (64 : Int) ≤ 1000000000 ∧ (0 : Int) ≤ 0 ∧ (0 : Int) ≤ 1000000000
  omega
 ·show 0 ≤ (o1 : Int) ∧ (o1 : Int) ≤ 1000000000 ∧ (0 : Int) ≤ 0 ∧ (0 : Int) ≤ 1000000000 ∧ (0 : Int) ≤ 64 ∧ (64 : Int) ≤ 1000000000 ∧ (0 : Int) ≤ 0 ∧ (0 : Int) ≤ 1000000000
  omega
 ·show 0 ≤ x.bidi ∧ x.bidi ≤ _;omega
 ·show 0 ≤ x.uni ∧ x.uni ≤ _;omega
 ·exact ⟨by show (0 : Int) ≤ 0;decide,hd.1,by show x.data ≤ maxOff;unfold maxOff;omega⟩
 ·exact ⟨by show (-1 : Int) ≤ 0;decide,by show (0 : Int) ≤ _;decide⟩
 ·have:=iS_len (cl:=cl) (x:=x) (b0:=b0) (b1:=b1) (r0:=r0) (r1:=r1) (f:=f) (sv:=sv) (o0:=o0) (o1:=o1)
  omega
end
end
section
open Go.RowKit
def fE (cl : Bool) (q : Nat) : Fr:=fStr ((2 * q + lo cl : Nat) : Int) 0 ByteArray.empty true
theorem Srv.stay {l : List Nat} {i : Nat} {s s' : SetP} {b b' : Bat} (h : Srv l i s b s' b') : (∀ x ∈ l,srv s x b = (s,b,false)) → s' = s ∧ b' = b:=by
 induction h with
 | stop l i s b h=>intro _;exact ⟨rfl,rfl⟩
 | go x t i s b s' b' h n ih=>
  intro hx
  rw [hx x (by simp)] at ih
  exact ih (fun y hy=>by
   rcases List.mem_append.mp hy with hy | hy
   ·exact hx y (by simp [hy])
   ·have : y = x:=by simpa using hy
    subst this;exact hx y (by simp))
section
variable {cl : Bool} {x : Pms} {o0 o1 : Nat} {b0 b1 : Bool} {r0 r1 sv : Int} {f : Nat → Bool} {b : Bat}
theorem iS_find {q : Nat} (hq : q < 8) (hP : inO o0 o1 q = true) : findS (iS cl x o0 o1 b0 b1 r0 r1 f sv) (2 * q + lo cl) = some (dX cl x.sdata (f q) q):=by
 refine slots_find (g:=fun q=>dX cl x.sdata (f q) q) hq hP (by show ((2 * q + lo cl) == (2 * q + lo cl)) = true;simp) (fun k hk _=>?_)
 show ((2 * k + lo cl) == (2 * q + lo cl)) = false
 simp;omega
theorem updS_slots {N q low : Nat} {P : Nat → Bool} {g : Nat → Strm} (hg : ∀ k,(g k).id = 2 * k + low) (y : Strm) : updS (slots N P g) (2 * q + low) y = slots N P (putS g q y):=by
 unfold updS slots
 rw [List.map_map]
 refine List.map_congr_left (fun k _=>?_)
 show (if (g k).id = 2 * q + low then y else g k) = putS g q y k
 unfold putS
 rw [hg]
 by_cases e : k = q
 ·rw [if_pos (by omega),if_pos e]
 ·rw [if_neg (by omega),if_neg e]
def setF (f : Nat → Bool) (q : Nat) : Nat → Bool:=fun k=>if k = q then true else f k
theorem ids_serve {q : Nat} (hq : q < 8) (hP : inO o0 o1 q = true) (hf : f q = false) (hb : 32 ≤ b.lf) :
  srv (iS cl x o0 o1 b0 b1 r0 r1 f sv) (2 * q + lo cl) b = (iS cl x o0 o1 b0 b1 r0 r1 (setF f q) ((2 * q + lo cl : Nat) : Int),b.add (fE cl q),true):=by
 have hfit : b.fits (fE cl q) = true:=by
  have:=(szF_str (id:=((2 * q + lo cl : Nat) : Int)) (off:=0) (d:=ByteArray.empty) (fin:=true) (by unfold lo;split <;> omega) (by omega) (by decide)).2
  have h0 : ((ByteArray.empty.size : Nat) : Int) = 0:=rfl
  unfold Bat.fits
  exact decide_eq_true (by show szF (fStr _ 0 ByteArray.empty true) ≤ b.lf;omega)
 have hP2 : srvP (iS cl x o0 o1 b0 b1 r0 r1 f sv).cr (dO x.sdata false) b = some (0,0):=by
  show (⟨8192,[],[],true,0⟩ : Wh).nextP (min (b.lf - 20) 1024) _ = some (0,0)
  unfold Wh.nextP
  rw [if_neg (by omega),if_neg (by rintro ⟨_,h⟩;exact absurd h (Nat.not_lt_zero _)),if_neg (by rintro ⟨h,_⟩;exact absurd h (Nat.not_lt_zero _)),if_pos ⟨rfl,rfl⟩]
  rfl
 unfold srv
 rw [iS_find hq hP,hf]
 unfold srvX
 show (if ((dO x.sdata false).act && decide (32 ≤ b.lf)) = true then _ else _) = _
 rw [decide_eq_true hb,show (dO x.sdata false).act = true from rfl,show (true && true) = true from rfl,if_pos rfl]
 show (match srvP (iS cl x o0 o1 b0 b1 r0 r1 f sv).cr (dO x.sdata false) b with | none=>_ | some p=>_) = _
 rw [hP2]
 dsimp only
 have e1 : updS (iS cl x o0 o1 b0 b1 r0 r1 f sv).ss (dX cl x.sdata false q).id { dX cl x.sdata false q with out:=some (srvO (dO x.sdata false) (0,0)) } = slots 8 (inO o0 o1) (fun k=>dX cl x.sdata (setF f q k) k):=by
  refine (updS_slots (fun k=>rfl) _).trans (slots_congr (fun k _=>⟨rfl,fun _=>?_⟩))
  unfold putS setF
  by_cases e : k = q
  ·subst e;rw [if_pos rfl,if_pos rfl];rfl
  ·rw [if_neg e,if_neg e]
 rw [e1]
 refine Prod.ext ?_ (Prod.ext rfl hfit)
 show ({ iS cl x o0 o1 b0 b1 r0 r1 f sv with ss:=_,cr:={ (iS cl x o0 o1 b0 b1 r0 r1 f sv).cr with used:=_ },srv:=_ } : SetP) = _
 rfl
theorem ids_served {q : Nat} (hq : q < 8) (hP : inO o0 o1 q = true) (hf : f q = true) : srv (iS cl x o0 o1 b0 b1 r0 r1 f sv) (2 * q + lo cl) b = (iS cl x o0 o1 b0 b1 r0 r1 f sv,b,false):=by
 have hP2 : srvP (iS cl x o0 o1 b0 b1 r0 r1 f sv).cr (dO x.sdata true) b = none:=by
  show (⟨8192,[],[],true,1⟩ : Wh).nextP (min (b.lf - 20) 1024) _ = none
  unfold Wh.nextP
  split
  ·rfl
  ·rw [if_neg (by rintro ⟨_,h⟩;exact absurd h (Nat.not_lt_zero _)),if_neg (by rintro ⟨h,_⟩;exact absurd h (Nat.not_lt_zero _)),if_neg (by rintro ⟨_,h⟩;exact absurd h (by decide))]
 unfold srv
 rw [iS_find hq hP,hf]
 unfold srvX
 show (if ((dO x.sdata true).act && decide (32 ≤ b.lf)) = true then (match srvP (iS cl x o0 o1 b0 b1 r0 r1 f sv).cr (dO x.sdata true) b with | none=>_ | some p=>_) else _) = _
 rw [hP2]
 split <;> rfl
theorem ids_run : ∀ (A B : List Nat) (f : Nat → Bool) (sv : Int) (b : Bat) (s' : SetP) (b' : Bat),(∀ q ∈ A,q < 8 ∧ inO o0 o1 q = true ∧ f q = false) → A.Nodup → (∀ q ∈ B,q < 8 ∧ inO o0 o1 q = true ∧ f q = true) → 32 + 10 * (A.length : Int) ≤ b.lf →
  Srv ((A ++ B).map fun q=>2 * q + lo cl) 0 (iS cl x o0 o1 b0 b1 r0 r1 f sv) b s' b' → b'.fs = b.fs ++ A.map (fE cl)
 | [],B,f,sv,b,s',b',_,_,hB,_,h=>by
  have:=(h.stay (fun y hy=>by
   rw [List.mem_map] at hy
   obtain ⟨q,hq,rfl⟩:=hy
   have:=hB q (by simpa using hq)
   exact ids_served this.1 this.2.1 this.2.2)).2
  rw [this];simp
 | q :: A,B,f,sv,b,s',b',hA,hn,hB,hl,h=>by
  obtain ⟨h1,h2,h3⟩:=hA q (by simp)
  rw [List.nodup_cons] at hn
  have hl' : 32 + 10 * ((A.length : Int) + 1) ≤ b.lf:=by simpa using hl
  have hs:=ids_serve (cl:=cl) (x:=x) (b0:=b0) (b1:=b1) (r0:=r0) (r1:=r1) (sv:=sv) (b:=b) h1 h2 h3 (by omega)
  have hsz:=szF_str (id:=((2 * q + lo cl : Nat) : Int)) (off:=0) (d:=ByteArray.empty) (fin:=true) (by unfold lo;split <;> omega) (by omega) (by decide)
  have h0 : ((ByteArray.empty.size : Nat) : Int) = 0:=rfl
  have hb : b.add (fE cl q) = ⟨b.fs ++ [fE cl q],b.lf - szF (fE cl q)⟩:=by
   unfold Bat.add Bat.fits
   rw [if_pos (decide_eq_true (by show szF (fStr _ 0 ByteArray.empty true) ≤ b.lf;omega))]
  have h' : Srv ((2 * q + lo cl) :: (A ++ B).map fun q=>2 * q + lo cl) 0 (iS cl x o0 o1 b0 b1 r0 r1 f sv) b s' b':=h
  cases h' with
  | stop _ _ _ _ hh=>simp at hh
  | go _ _ _ _ _ _ _ _ n=>
   rw [hs] at n
   dsimp only at n
   rw [if_pos rfl,hb] at n
   have e : (A ++ B).map (fun q=>2 * q + lo cl) ++ [2 * q + lo cl] = (A ++ (B ++ [q])).map fun q=>2 * q + lo cl:=by simp
   rw [e] at n
   have:=ids_run A (B ++ [q]) (setF f q) _ _ s' b' (fun k hk=>?_) hn.2 (fun k hk=>?_) (by show _ ≤ b.lf - szF (fStr _ 0 ByteArray.empty true);omega) n
   ·rw [this];simp
   ·obtain ⟨g1,g2,g3⟩:=hA k (by simp [hk])
    have : ¬ k = q:=fun e=>hn.1 (e ▸ hk)
    exact ⟨g1,g2,by unfold setF;rw [if_neg this];exact g3⟩
   ·rcases List.mem_append.mp hk with hk | hk
    ·obtain ⟨g1,g2,g3⟩:=hB k hk
     refine ⟨g1,g2,?_⟩
     unfold setF
     split
     ·rfl
     ·exact g3
    ·have : k = q:=by simpa using hk
     subst this
     exact ⟨h1,h2,by unfold setF;rw [if_pos rfl]⟩
def slotL (o0 o1 : Nat) : List Nat:=(List.range 8).filter (inO o0 o1)
theorem szF_sbl {u : Bool} {m : Int} (h : 0 ≤ m ∧ m ≤ 16383) : szF (fSBl u m) ≤ 10:=by
 have len : ∀ n : Int,0 ≤ n → n ≤ 16383 → (frm.encV n).length ≤ 8:=fun n _ _=>frm.encV_len n
 have e : szF (fSBl u m) = (((strOfNums [frm.headB (fSBl u m)] ++ strOfNums [if u then 1 else 0]) ++ strOfNums (frm.encV m)).size : Nat):=rfl
 rw [e]
 simp only [ByteArray.size_append,strOfNums_size,List.length_singleton]
 have:=len m h.1 h.2
 omega
theorem add_le {b : Bat} {g : Fr} (h : szF g ≤ 10) (hb : 10 ≤ b.lf) : b.add g = ⟨b.fs ++ [g],b.lf - szF g⟩:=by
 unfold Bat.add Bat.fits
 rw [if_pos (decide_eq_true (by omega))]
theorem ids_frames {s' : SetP} {fs : List Fr} (hb : 0 ≤ x.bidi ∧ x.bidi ≤ 4) (hu : 0 ≤ x.uni ∧ x.uni ≤ 4) (h : FramesP (iS cl x o0 o1 b0 b1 r0 r1 nof (-1)) 2000 s' fs) :
  ∃ pre : List Fr,fs = pre ++ (slotL o0 o1).map (fE cl) ∧ pre.length ≤ 2 ∧ ∀ g ∈ pre,∃ u m,g = fSBl u m ∧ 0 ≤ m ∧ m ≤ 4:=by
 have he : ∀ {b0 b1 : Bool} {f : Nat → Bool} {sv : Int},∀ y ∈ (iS cl x o0 o1 b0 b1 r0 r1 f sv).ss,∃ k,y = dX cl x.sdata (f k) k:=fun y hy=>by
  obtain ⟨k,_,_,e⟩:=slots_mem hy
  exact ⟨k,e⟩
 have hO : ∀ {b0 b1 : Bool},∀ y ∈ (iS cl x o0 o1 b0 b1 r0 r1 nof (-1)).ss,∀ o,y.out = some o → o = dO x.sdata false:=fun y hy o ho=>by
  obtain ⟨k,rfl⟩:=he y hy
  injection ho with ho
  exact ho.symm
 have hI : ∀ {b0 b1 : Bool},∀ y ∈ (iS cl x o0 o1 b0 b1 r0 r1 nof (-1)).ss,∀ i,y.inp = some i → Qi i:=fun y hy i hi=>by
  obtain ⟨k,rfl⟩:=he y hy
  have hi : (if k % 2 = 0 then some (newIn 100) else none) = some i:=hi
  split at hi
  ·injection hi with hi
   subst hi
   exact ⟨rfl,rfl,by decide⟩
  ·cases hi
 unfold FramesP at h
 rw [cl_quiet (by show Rcr.near ⟨1000,1000,0,0⟩ = false;decide) rfl rfl rfl,if_pos rfl] at h
 dsimp only at h
 rw [ctlL_quiet _ _ (fun y hy o ho=>by rw [hO y hy o ho];rfl) hI,if_pos rfl] at h
 dsimp only at h
 obtain ⟨r,hr,b',hS,rfl⟩:=h
 have hw : ∀ {b0 b1 : Bool},(iS cl x o0 o1 b0 b1 r0 r1 nof (-1)).ss.any (fun y=>outWait y.out) = false:=by
  intro b0 b1
  rw [List.any_eq_false]
  intro y hy
  obtain ⟨k,rfl⟩:=he y hy
  have : (dO x.sdata false).wait = false:=rfl
  show ¬ (OutP.wait (dO x.sdata false)) = true
  rw [this]
  decide
 have hX : ∀ (l : List Strm) (b : Bat),(∀ y ∈ l,outWait y.out = false) → blL l b = (l,b):=by
  intro l
  induction l with
  | nil=>intro b _;rfl
  | cons y t ih=>
   intro b hy
   have e1 : blX y b = (y,b):=by
    have:=hy y (by simp)
    unfold blX
    cases ho : y.out with
    | none=>rfl
    | some o=>
     rw [ho] at this
     have : o.wait = false:=this
     dsimp only
     rw [this];rfl
   unfold blL
   rw [e1]
   dsimp only
   rw [ih b (fun z hz=>hy z (by simp [hz]))]
 have hBl : ∃ pre lf,r = (iS cl x o0 o1 false false r0 r1 nof (-1),⟨pre,lf⟩) ∧ 1900 ≤ lf ∧ pre.length ≤ 2 ∧ ∀ g ∈ pre,∃ u m,g = fSBl u m ∧ 0 ≤ m ∧ m ≤ 4:=by
  have k0:=szF_sbl (u:=false) (m:=x.bidi) ⟨hb.1,by omega⟩
  have k1:=szF_sbl (u:=true) (m:=x.uni) ⟨hu.1,by omega⟩
  have s0:=szF_pos (fSBl false x.bidi)
  have s1:=szF_pos (fSBl true x.uni)
  have fin : ∀ b : Bat,blP (iS cl x o0 o1 false false r0 r1 nof (-1)) b = (iS cl x o0 o1 false false r0 r1 nof (-1),b):=by
   intro b
   have e2 : bl2 (iS cl x o0 o1 false false r0 r1 nof (-1)) b = (iS cl x o0 o1 false false r0 r1 nof (-1),b):=by
    unfold bl2;rw [hw];rfl
   have e3:=hX (iS cl x o0 o1 false false r0 r1 nof (-1)).ss b (fun y hy=>by
    have:=List.any_eq_false.mp hw y hy
    simpa using this)
   unfold blP
   dsimp only
   rw [show bl0 (iS cl x o0 o1 false false r0 r1 nof (-1)) b = (iS cl x o0 o1 false false r0 r1 nof (-1),b) from rfl]
   dsimp only
   rw [show bl1 (iS cl x o0 o1 false false r0 r1 nof (-1)) b = (iS cl x o0 o1 false false r0 r1 nof (-1),b) from rfl]
   dsimp only
   rw [e2]
   dsimp only
   rw [e3]
  have hr' : r = blP (iS cl x o0 o1 b0 b1 r0 r1 nof (-1)) ⟨[],2000⟩:=hr
  have t0 : (10 : Int) ≤ (⟨[],2000⟩ : Bat).lf:=by show (10 : Int) ≤ 2000;omega
  cases b0 <;> cases b1
  ·exact ⟨[],2000,hr'.trans (fin _),by decide,by decide,fun g hg=>by cases hg⟩
  ·have e : blP (iS cl x o0 o1 false true r0 r1 nof (-1)) ⟨[],2000⟩ = blP (iS cl x o0 o1 false false r0 r1 nof (-1)) ((⟨[],2000⟩ : Bat).add (fSBl true x.uni)):=rfl
   rw [add_le k1 t0] at e
   exact ⟨_,_,hr'.trans (e.trans (fin _)),by dsimp only;omega,by simp,fun g hg=>by
    have : g = fSBl true x.uni:=by simpa using hg
    exact ⟨_,_,this,hu.1,hu.2⟩⟩
  ·have e : blP (iS cl x o0 o1 true false r0 r1 nof (-1)) ⟨[],2000⟩ = blP (iS cl x o0 o1 false false r0 r1 nof (-1)) ((⟨[],2000⟩ : Bat).add (fSBl false x.bidi)):=rfl
   rw [add_le k0 t0] at e
   exact ⟨_,_,hr'.trans (e.trans (fin _)),by dsimp only;omega,by simp,fun g hg=>by
    have : g = fSBl false x.bidi:=by simpa using hg
    exact ⟨_,_,this,hb.1,hb.2⟩⟩
  ·have e : blP (iS cl x o0 o1 true true r0 r1 nof (-1)) ⟨[],2000⟩ = blP (iS cl x o0 o1 false false r0 r1 nof (-1)) (((⟨[],2000⟩ : Bat).add (fSBl false x.bidi)).add (fSBl true x.uni)):=rfl
   rw [add_le k0 t0,add_le k1 (by dsimp only;omega)] at e
   exact ⟨_,_,hr'.trans (e.trans (fin _)),by dsimp only;omega,by simp,fun g hg=>by
    have : g = fSBl false x.bidi ∨ g = fSBl true x.uni:=by simpa using hg
    rcases this with h | h
    ·exact ⟨_,_,h,hb.1,hb.2⟩
    ·exact ⟨_,_,h,hu.1,hu.2⟩⟩
 obtain ⟨pre,lf,rfl,hlf,hpl,hpre⟩:=hBl
 dsimp only at hS
 have hcyc : cycF ((iS cl x o0 o1 false false r0 r1 nof (-1)).ss.map (·.id)) (iS cl x o0 o1 false false r0 r1 nof (-1)).srv = (slotL o0 o1 ++ []).map fun q=>2 * q + lo cl:=by
  have e1 : (iS cl x o0 o1 false false r0 r1 nof (-1)).ss.map (·.id) = (slotL o0 o1).map fun q=>2 * q + lo cl:=by
   show (slots 8 _ _).map _ = _
   unfold slots slotL
   rw [List.map_map];rfl
  rw [e1,List.append_nil]
  show cycF _ (-1) = _
  unfold cycF
  have n1 : ∀ l : List Nat,l.dropWhile (fun (i : Nat)=>decide ((i : Int) ≤ -1)) = l:=by
   intro l
   cases l with
   | nil=>rfl
   | cons y t=>rw [List.dropWhile_cons_of_neg (by simp;omega)]
  have n2 : ∀ l : List Nat,l.takeWhile (fun (i : Nat)=>decide ((i : Int) ≤ -1)) = []:=by
   intro l
   cases l with
   | nil=>rfl
   | cons y t=>rw [List.takeWhile_cons_of_neg (by simp;omega)]
  rw [n1,n2,List.append_nil]
 rw [hcyc] at hS
 have hlen : (slotL o0 o1).length ≤ 8:=by
  have:=List.length_filter_le (inO o0 o1) (List.range 8)
  unfold slotL
  simpa using this
 have:=ids_run (slotL o0 o1) [] nof (-1) ⟨pre,lf⟩ s' b' (fun q hq=>by
  unfold slotL at hq
  rw [List.mem_filter,List.mem_range] at hq
  exact ⟨hq.1,hq.2,rfl⟩) (List.nodup_range.filter _) (fun q hq=>by cases hq) (by dsimp only;omega) hS
 exact ⟨pre,this,hpl,hpre⟩
end
end
section
open Go.RowKit
def rI (sd : Nat) (e : Bool) : InP:=if e then datI (newIn sd) (fStr 0 0 ByteArray.empty true) else newIn sd
def rX (cl : Bool) (x : Pms) (e ac : Bool) (q : Nat) : Strm:=⟨2 * q + lo cl,if q % 2 = 0 then some (newOut 100) else none,some (rI x.sdata.toNat e),ac⟩
def rS (cl : Bool) (x : Pms) (a0 a1 : Nat) (f g : Nat → Bool) : SetP:={ newP (!cl) x gP with ss:=slots 8 (inO a0 a1) (fun q=>rX cl x (f q) (g q) q),g0:=⟨0,a0,64,x.bidi,0,false,false,-1⟩,g1:=⟨0,a1,64,x.uni,0,false,false,-1⟩ }
theorem notLoc (cl : Bool) (q : Nat) : isLoc (!cl) (2 * q + lo cl) = false:=by
 unfold isLoc lo
 cases cl
 ·have : (2 * q + 1) % 2 = 1:=by omega
  simp only [Bool.false_eq_true,if_false,this]
  rfl
 ·have : (2 * q + 0) % 2 = 0:=by omega
  simp only [if_true,this]
  rfl
theorem kind_slot (cl : Bool) (q : Nat) : kindN (2 * q + lo cl) = q % 2:=by unfold kindN lo;split <;> omega
theorem new_r (cl : Bool) (x : Pms) (q : Nat) : newStrm (!cl) 100 x.sdata.toNat (2 * q + lo cl) = rX cl x false false q:=by
 unfold newStrm hasO hasI rX
 rw [notLoc,kind_slot]
 by_cases e : q % 2 = 0
 ·rw [if_pos e,decide_eq_true e];rfl
 ·rw [if_neg e,decide_eq_false e];rfl
section
variable {W w w' : World} {a : SetA} {R : List (Nat × Obj)} {cl : Bool} {x : Pms} {a0 a1 : Nat} {f g : Nat → Bool}
theorem cr_slots (k : Nat) (hk : k < 2) {G : Nat → Strm} (hG : ∀ q,(G q).id = 2 * q + lo cl) : ∀ (n j : Nat) (P : Nat → Bool),j + n ≤ 4 → (∀ i,j ≤ i → i < j + n → P (2 * i + k) = false ∧ G (2 * i + k) = rX cl x false false (2 * i + k)) →
  crP (!cl) 100 x.sdata.toNat (2 * k + lo cl) n j (slots 8 P G) = slots 8 (fun q=>P q || (decide (q % 2 = k) && (decide (j ≤ q / 2) && decide (q / 2 < j + n)))) G
 | 0,j,P,_,_=>by
  unfold crP
  refine slots_congr (fun q _=>⟨?_,fun _=>rfl⟩)
  have : (decide (j ≤ q / 2) && decide (q / 2 < j + 0)) = false:=by
   rw [Bool.and_eq_false_iff,decide_eq_false_iff_not,decide_eq_false_iff_not];omega
  rw [this];simp
 | n + 1,j,P,hj,hf=>by
  obtain ⟨h1,h2⟩:=hf j (Nat.le_refl _) (by omega)
  unfold crP
  have e1 : 4 * j + (2 * k + lo cl) = 2 * (2 * j + k) + lo cl:=by omega
  have e2 : insP (newStrm (!cl) 100 x.sdata.toNat (4 * j + (2 * k + lo cl))) (slots 8 P G) = slots 8 (addS P (2 * j + k)) G:=by
   rw [e1,new_r,slots_ins (by omega) h1 (lo cl) hG rfl]
   refine slots_congr (fun q _=>⟨rfl,fun _=>?_⟩)
   unfold putS
   split
   ·rename_i e;rw [e,h2]
   ·rfl
  rw [e2,cr_slots k hk hG n (j + 1) (addS P (2 * j + k)) (by omega) (fun i h3 h4=>by
   obtain ⟨h5,h6⟩:=hf i (by omega) (by omega)
   refine ⟨?_,h6⟩
   unfold addS
   rw [h5]
   simp;omega)]
  refine slots_congr (fun q _=>⟨?_,fun _=>rfl⟩)
  unfold addS
  rw [Bool.eq_iff_iff]
  simp only [Bool.or_eq_true,Bool.and_eq_true,decide_eq_true_eq,beq_iff_eq]
  constructor
  ·rintro ((h | h) | h)
   ·exact .inl h
   iterate 2 (· exact .inr (by omega))
  ·rintro (h | h)
   ·exact .inl (.inl h)
   ·by_cases e : q = 2 * j + k
    ·exact .inl (.inr e)
    ·exact .inr (by omega)
theorem rI_facts (sd : Nat) (e : Bool) : (rI sd e).stp = false ∧ dn (rI sd e).recv = false ∧ (rI sd e).cn = 0 ∧ (rI sd e).wn.most = sd ∧ (rI sd e).R.at_ = 0:=by
 cases e
 ·exact ⟨rfl,rfl,rfl,rfl,rfl⟩
 ·unfold rI
  rw [if_pos rfl]
  unfold datI
  split <;> exact ⟨rfl,rfl,rfl,rfl,rfl⟩
theorem rX_done (e ac : Bool) (q : Nat) : (rX cl x e ac q).done = false:=by
 unfold Strm.done rX
 dsimp only
 rw [(rI_facts _ e).2.1]
 simp
theorem ids_cn0 {j : Nat} (hj : j < 4) (hjb : (j : Int) < x.bidi) (ha0 : a0 ≤ 4) (hfg : ∀ i,a0 ≤ i → f (2 * i) = false ∧ g (2 * i) = false) (hsd : 0 ≤ x.sdata ∧ x.sdata ≤ 1000) (hb : x.bidi ≤ 4) :
  CnOk W a (rS cl x a0 a1 f g) (rS cl x (a0 + (j + 1 - a0)) a1 f g) (2 * (2 * j) + lo cl) false:=by
 have hid4 : (2 * (2 * j) + lo cl) / 4 = j:=by unfold lo;split <;> omega
 have hm4 : (2 * (2 * j) + lo cl) % 4 = lo cl:=by unfold lo;split <;> omega
 have hlo : lo cl ≤ 1:=by unfold lo;split <;> omega
 have hP : inO (a0 + (j + 1 - a0)) a1 (2 * j) = true:=by
  unfold inO
  rw [if_pos (by omega)]
  exact decide_eq_true (by omega)
 have hs:=slots_at (g:=fun q=>rX cl x (f q) (g q) q) (show 2 * j < 8 by omega) hP
 have hcr : crP (!cl) 100 x.sdata.toNat (lo cl) (j + 1 - a0) a0 (slots 8 (inO a0 a1) (fun q=>rX cl x (f q) (g q) q)) = slots 8 (inO (a0 + (j + 1 - a0)) a1) (fun q=>rX cl x (f q) (g q) q):=by
  have:=cr_slots (cl:=cl) (x:=x) 0 (by omega) (G:=fun q=>rX cl x (f q) (g q) q) (fun q=>rfl) (j + 1 - a0) a0 (inO a0 a1) (by omega) (fun i h1 h2=>by
   refine ⟨?_,?_⟩
   ·unfold inO
    rw [if_pos (by omega)]
    exact decide_eq_false (by omega)
   ·show rX cl x (f (2 * i)) (g (2 * i)) (2 * i + 0) = _
    rw [(hfg i h1).1,(hfg i h1).2])
  rw [show 2 * 0 + lo cl = lo cl from by omega] at this
  rw [this]
  refine slots_congr (fun q _=>⟨?_,fun _=>rfl⟩)
  unfold inO
  rw [Bool.eq_iff_iff]
  simp only [Bool.or_eq_true,Bool.and_eq_true,decide_eq_true_eq]
  by_cases e : q % 2 = 0
  ·rw [if_pos e,if_pos e];omega
  ·rw [if_neg e,if_neg e];omega
 have CN:=cn_new0 (W:=W) (a:=a) (p:=rS cl x a0 a1 f g) (2 * (2 * j) + lo cl) (by omega) false (by rw [kind_slot];omega) (notLoc cl (2 * j)) a0 rfl (by
   show ((2 * (2 * j) + lo cl : Nat) : Int) / 4 < x.bidi + 0
   omega) (by show -9223372036854775808 ≤ x.bidi + 0 ∧ x.bidi + 0 ≤ 800000;omega) (by show (0 : Int) ≤ 100;decide) (by show (100 : Int) ≤ _;decide) x.sdata.toNat (by show x.sdata = (x.sdata.toNat : Int);omega) (by omega) (by omega) (fun e he h4=>by
   obtain ⟨k,_,h2,rfl⟩:=slots_mem he
   have h4 : (2 * k + lo cl) % 4 = (2 * (2 * j) + lo cl) % 4:=h4
   show (2 * k + lo cl) / 4 < a0
   unfold inO at h2
   have:=of_decide_eq_true h2
   rw [if_pos (by omega)] at this
   omega) (by
   have:=slots_len (N:=8) (P:=inO a0 a1) (g:=fun q=>rX cl x (f q) (g q) q)
   show (slots 8 (inO a0 a1) (fun q=>rX cl x (f q) (g q) q)).length + _ ≤ 900000
   omega) (q1:=lowS (2 * j) (inO (a0 + (j + 1 - a0)) a1) (fun q=>rX cl x (f q) (g q) q)) (x:=rX cl x (f (2 * j)) (g (2 * j)) (2 * j)) (q2:=highS 8 (2 * j) (inO (a0 + (j + 1 - a0)) a1) (fun q=>rX cl x (f q) (g q) q)) (by
   show crP (!cl) 100 x.sdata.toNat ((2 * (2 * j) + lo cl) % 4) ((2 * (2 * j) + lo cl) / 4 + 1 - a0) a0 (slots 8 (inO a0 a1) (fun q=>rX cl x (f q) (g q) q)) = _
   rw [hid4,hm4,hcr,hs]) rfl
 have e : ({ rS cl x a0 a1 f g with ss:=lowS (2 * j) (inO (a0 + (j + 1 - a0)) a1) (fun q=>rX cl x (f q) (g q) q) ++ rX cl x (f (2 * j)) (g (2 * j)) (2 * j) :: highS 8 (2 * j) (inO (a0 + (j + 1 - a0)) a1) (fun q=>rX cl x (f q) (g q) q),g0:={ (rS cl x a0 a1 f g).g0 with acc:=((a0 + ((2 * (2 * j) + lo cl) / 4 + 1 - a0) : Nat) : Int) } } : SetP) = rS cl x (a0 + (j + 1 - a0)) a1 f g:=by
  rw [← hs,hid4];rfl
 rw [e] at CN
 exact CN
theorem ids_cn1 {j : Nat} (hj : j < 4) (hjb : (j : Int) < x.uni) (ha0 : a1 ≤ 4) (hfg : ∀ i,a1 ≤ i → f (2 * i + 1) = false ∧ g (2 * i + 1) = false) (hsd : 0 ≤ x.sdata ∧ x.sdata ≤ 1000) (hb : x.uni ≤ 4) :
  CnOk W a (rS cl x a0 a1 f g) (rS cl x a0 (a1 + (j + 1 - a1)) f g) (2 * (2 * j + 1) + lo cl) false:=by
 have hid4 : (2 * (2 * j + 1) + lo cl) / 4 = j:=by unfold lo;split <;> omega
 have hm4 : (2 * (2 * j + 1) + lo cl) % 4 = 2 + lo cl:=by unfold lo;split <;> omega
 have hlo : lo cl ≤ 1:=by unfold lo;split <;> omega
 have hP : inO a0 (a1 + (j + 1 - a1)) (2 * j + 1) = true:=by
  unfold inO
  rw [if_neg (by omega)]
  exact decide_eq_true (by omega)
 have hs:=slots_at (g:=fun q=>rX cl x (f q) (g q) q) (show 2 * j + 1 < 8 by omega) hP
 have hcr : crP (!cl) 100 x.sdata.toNat (2 + lo cl) (j + 1 - a1) a1 (slots 8 (inO a0 a1) (fun q=>rX cl x (f q) (g q) q)) = slots 8 (inO a0 (a1 + (j + 1 - a1))) (fun q=>rX cl x (f q) (g q) q):=by
  have:=cr_slots (cl:=cl) (x:=x) 1 (by omega) (G:=fun q=>rX cl x (f q) (g q) q) (fun q=>rfl) (j + 1 - a1) a1 (inO a0 a1) (by omega) (fun i h1 h2=>by
   refine ⟨?_,?_⟩
   ·unfold inO
    rw [if_neg (by omega)]
    exact decide_eq_false (by omega)
   ·show rX cl x (f (2 * i + 1)) (g (2 * i + 1)) (2 * i + 1) = _
    rw [(hfg i h1).1,(hfg i h1).2])
  rw [show 2 * 1 + lo cl = 2 + lo cl from by omega] at this
  rw [this]
  refine slots_congr (fun q _=>⟨?_,fun _=>rfl⟩)
  unfold inO
  rw [Bool.eq_iff_iff]
  simp only [Bool.or_eq_true,Bool.and_eq_true,decide_eq_true_eq]
  by_cases e : q % 2 = 0
  ·rw [if_pos e,if_pos e];omega
  ·rw [if_neg e,if_neg e];omega
 have CN:=cn_new1 (W:=W) (a:=a) (p:=rS cl x a0 a1 f g) (2 * (2 * j + 1) + lo cl) (by omega) (by rw [kind_slot];omega) (notLoc cl (2 * j + 1)) a1 rfl (by
   show ((2 * (2 * j + 1) + lo cl : Nat) : Int) / 4 < x.uni + 0
   omega) (by show -9223372036854775808 ≤ x.uni + 0 ∧ x.uni + 0 ≤ 800000;omega) (by show (0 : Int) ≤ 100;decide) (by show (100 : Int) ≤ _;decide) x.sdata.toNat (by show x.sdata = (x.sdata.toNat : Int);omega) (by omega) (by omega) (fun e he h4=>by
   obtain ⟨k,_,h2,rfl⟩:=slots_mem he
   have h4 : (2 * k + lo cl) % 4 = (2 * (2 * j + 1) + lo cl) % 4:=h4
   show (2 * k + lo cl) / 4 < a1
   unfold inO at h2
   have:=of_decide_eq_true h2
   rw [if_neg (by omega)] at this
   omega) (by
   have:=slots_len (N:=8) (P:=inO a0 a1) (g:=fun q=>rX cl x (f q) (g q) q)
   show (slots 8 (inO a0 a1) (fun q=>rX cl x (f q) (g q) q)).length + _ ≤ 900000
   omega) (q1:=lowS (2 * j + 1) (inO a0 (a1 + (j + 1 - a1))) (fun q=>rX cl x (f q) (g q) q)) (x:=rX cl x (f (2 * j + 1)) (g (2 * j + 1)) (2 * j + 1)) (q2:=highS 8 (2 * j + 1) (inO a0 (a1 + (j + 1 - a1))) (fun q=>rX cl x (f q) (g q) q)) (by
   show crP (!cl) 100 x.sdata.toNat ((2 * (2 * j + 1) + lo cl) % 4) ((2 * (2 * j + 1) + lo cl) / 4 + 1 - a1) a1 (slots 8 (inO a0 a1) (fun q=>rX cl x (f q) (g q) q)) = _
   rw [hid4,hm4,hcr,hs]) rfl
 have e : ({ rS cl x a0 a1 f g with ss:=lowS (2 * j + 1) (inO a0 (a1 + (j + 1 - a1))) (fun q=>rX cl x (f q) (g q) q) ++ rX cl x (f (2 * j + 1)) (g (2 * j + 1)) (2 * j + 1) :: highS 8 (2 * j + 1) (inO a0 (a1 + (j + 1 - a1))) (fun q=>rX cl x (f q) (g q) q),g1:={ (rS cl x a0 a1 f g).g1 with acc:=((a1 + ((2 * (2 * j + 1) + lo cl) / 4 + 1 - a1) : Nat) : Int) } } : SetP) = rS cl x a0 (a1 + (j + 1 - a1)) f g:=by
  rw [← hs,hid4];rfl
 rw [e] at CN
 exact CN
theorem ids_recv {p : SetP} {q b0 b1 : Nat} (hq : q < 8) (CN : CnOk W a p (rS cl x b0 b1 f g) (2 * q + lo cl) false) (hP : inO b0 b1 q = true) (hf : f q = false) (hb0 : b0 ≤ 4) (hb1 : b1 ≤ 4) (hsd : 0 ≤ x.sdata ∧ x.sdata ≤ 1000) (hd : 0 ≤ x.data ∧ x.data ≤ 1000) (hb : 0 ≤ x.bidi ∧ x.bidi ≤ 4) (hu : 0 ≤ x.uni ∧ x.uni ≤ 4)
  {w : World} (h : Mn W w a p R) {a0 a1 a2 a3 : Addr} (hE : rea.Errs W a0 a1 a2 a3) (hA : rea.Apt W a0 a1) :
  Calls Tryz.prog 24 #[ptr a.sb,(fE cl q).val] w fun e w'=>e = .returned (.int .i64 0) ∧ Mn W w' a (rS cl x b0 b1 (setF f q) g) R:=by
 have hlo : lo cl ≤ 1:=by unfold lo;split <;> omega
 have hs:=slots_at (g:=fun q=>rX cl x (f q) (g q) q) hq hP
 have hi : (rX cl x (f q) (g q) q).inp = some (newIn x.sdata.toNat):=by show some (rI _ (f q)) = _;rw [hf];rfl
 have hsz : (fE cl q).s.size = 0:=rfl
 have hend : datEnd (fE cl q) = 0:=rfl
 have hdat : datEP (rS cl x b0 b1 f g) (newIn x.sdata.toNat) (fE cl q) = 0:=by
  have e1 : excP (rS cl x b0 b1 f g) (newIn x.sdata.toNat) 0 = false:=by
   unfold excP
   have h1 : decide ((newIn x.sdata.toNat).wn.most < 0) = false:=decide_eq_false (by show ¬ ((x.sdata.toNat : Nat) : Int) < 0;omega)
   have h2 : decide ((rS cl x b0 b1 f g).wn.most < (rS cl x b0 b1 f g).tot + max (0 - (newIn x.sdata.toNat).cn) 0) = false:=decide_eq_false (by show ¬ x.data < 0 + max (0 - 0) 0;omega)
   rw [h1,h2];rfl
  unfold datEP
  rw [hend,e1]
  show rea.putE (newIn x.sdata.toNat).R 0 ByteArray.empty true = 0
  unfold rea.putE
  rw [show rea.bytesOf ByteArray.empty = [] from rfl,agF_nil]
  rfl
 have hG : ∀ (b : Nat),b ≤ 4 → ∀ n : Int,0 ≤ n ∧ n ≤ 4 → Grp.Ok ⟨0,b,64,n,0,false,false,-1⟩:=fun b hb n hn=>by
  show (0 : Int) ≤ 0 ∧ (0 : Int) ≤ 1000000000 ∧ 0 ≤ (b : Int) ∧ (b : Int) ≤ 1000000000 ∧ 0 ≤ n ∧ n ≤ 1000000000 ∧ (0 : Int) ≤ 0 ∧ (0 : Int) ≤ 1000000000
  omega
 refine (mn_data h (fE cl q) (v_str (by omega) (by decide) (by decide) (by decide)) rfl (x:=rX cl x (f q) (g q) q) (i:=newIn x.sdata.toNat) rfl CN hs hi (hG b0 hb0 _ hb) (hG b1 hb1 _ hu) (by show (0 : Int) ≤ 0;decide) (by show (0 : Int) + (0 : Nat) ≤ _;decide) (by show (0 : Nat) ≤ _;decide) (by show (0 : Int) ≤ 0 ∧ (0 : Int) ≤ maxOff;decide) (by show (0 : Int) ≤ 0 ∧ (0 : Int) ≤ maxOff;decide) (by show (0 : Nat) ≤ _;decide) (by show (0 : Int) ≤ ((x.sdata.toNat : Nat) : Int);omega) (by show (0 : Int) ≤ x.data;omega) (by
  show ((x.sdata.toNat : Nat) : Int) ≤ ((0 : Nat) : Int) + ((List.replicate (max 1 x.sdata.toNat) (0 : Int)).length : Nat)
  rw [List.length_replicate];omega) hE hA rfl hdat).mono fun e w' hh=>⟨hh.1,?_⟩
 have h2:=hh.2
 have e1 : datI2 (newIn x.sdata.toNat) (fE cl q) = rI x.sdata.toNat true:=rfl
 rw [e1] at h2
 have e2 : ({ rX cl x (f q) (g q) q with inp:=some (rI x.sdata.toNat true) } : Strm) = rX cl x true (g q) q:=rfl
 rw [e2] at h2
 have e3 : datSP (rS cl x b0 b1 f g) (newIn x.sdata.toNat) (fE cl q) (lowS q (inO b0 b1) (fun q=>rX cl x (f q) (g q) q) ++ rX cl x true (g q) q :: highS 8 q (inO b0 b1) (fun q=>rX cl x (f q) (g q) q)) = rS cl x b0 b1 (setF f q) g:=by
  rw [slots_put hq hP]
  have e4 : slots 8 (inO b0 b1) (putS (fun q=>rX cl x (f q) (g q) q) q (rX cl x true (g q) q)) = slots 8 (inO b0 b1) (fun k=>rX cl x (setF f q k) (g k) k):=by
   refine slots_congr (fun k _=>⟨rfl,fun _=>?_⟩)
   unfold putS setF
   by_cases e : k = q
   ·subst e;rw [if_pos rfl,if_pos rfl]
   ·rw [if_neg e,if_neg e]
  rw [e4]
  rfl
 unfold stlP at h2
 rw [rX_done] at h2
 rw [e3] at h2
 have e5 : lowS q (inO b0 b1) (fun q=>rX cl x (f q) (g q) q) ++ rX cl x true (g q) q :: highS 8 q (inO b0 b1) (fun q=>rX cl x (f q) (g q) q) = (rS cl x b0 b1 (setF f q) g).ss:=by rw [← e3];rfl
 rw [e5] at h2
 exact h2
theorem upd_split {l q1 q2 : List Strm} {x y : Strm} (hl : l = q1 ++ x :: q2) (hp : l.Pairwise fun e f=>e.id < f.id) : q1 ++ y :: q2 = updS l x.id y:=by
 subst hl
 have h1:=List.pairwise_append.mp hp
 have h2:=List.pairwise_cons.mp h1.2.1
 have e1 : q1.map (fun z=>if z.id = x.id then y else z) = q1:=by
  conv=>rhs;rw [← List.map_id q1]
  refine List.map_congr_left (fun e he=>?_)
  have:=h1.2.2 e he x (by simp)
  rw [if_neg (by omega)];rfl
 have e2 : q2.map (fun z=>if z.id = x.id then y else z) = q2:=by
  conv=>rhs;rw [← List.map_id q2]
  refine List.map_congr_left (fun e he=>?_)
  have:=h2.1 e he
  rw [if_neg (by omega)];rfl
 unfold updS
 rw [List.map_append,List.map_cons,if_pos rfl,e1,e2]
theorem slots_sorted {N low : Nat} {P : Nat → Bool} {G : Nat → Strm} (hg : ∀ k,(G k).id = 2 * k + low) : (slots N P G).Pairwise fun e f=>e.id < f.id:=by
 unfold slots
 rw [List.pairwise_map]
 refine (List.Pairwise.filter P List.pairwise_lt_range).imp (fun {k j} h=>?_)
 rw [hg,hg];omega
def bel (t : Nat) : Nat → Bool:=fun k=>decide (k < t)
theorem ids_accept {t q : Nat} (hq : q < 8) (hP : inO a0 a1 q = true) (htq : t ≤ q) (hlt : ∀ k,t ≤ k → k < q → inO a0 a1 k = false) (h : Mn W w a (rS cl x a0 a1 f (bel t)) R) :
  Calls Tryz.prog 25 #[ptr a.sb] w fun e w'=>e = .returned (.tuple #[.int .i64 ((2 * q + lo cl : Nat) : Int),.bool true]) ∧ Mn W w' a (rS cl x a0 a1 f (bel (q + 1))) R:=by
 have hE : ∀ k,accE (!cl) (rX cl x (f k) (bel t k) k) = !bel t k:=fun k=>by
  unfold accE
  show (!isLoc (!cl) (2 * k + lo cl) && !bel t k) = _
  rw [notLoc];rfl
 have hf : (rS cl x a0 a1 f (bel t)).ss.find? (accE (!cl)) = some (rX cl x (f q) (bel t q) q):=slots_find (g:=fun k=>rX cl x (f k) (bel t k) k) hq hP (by
  show accE (!cl) (rX cl x (f q) (bel t q) q) = true
  rw [hE];unfold bel;rw [decide_eq_false (by omega)];rfl) (fun k hk hPk=>by
  show accE (!cl) (rX cl x (f k) (bel t k) k) = false
  rw [hE]
  by_cases e : k < t
  ·unfold bel;rw [decide_eq_true e];rfl
  ·rw [hlt k (by omega) hk] at hPk;cases hPk)
 have hl:=slots_len (N:=8) (P:=inO a0 a1) (g:=fun k=>rX cl x (f k) (bel t k) k)
 refine (mn_accept_yes h (by show (slots 8 (inO a0 a1) (fun k=>rX cl x (f k) (bel t k) k)).length ≤ _;omega) hf).mono fun e w' hh=>⟨hh.1,?_⟩
 obtain ⟨q1,q2,hs,hM⟩:=hh.2
 rw [upd_split hs (slots_sorted (low:=lo cl) (fun k=>rfl))] at hM
 have e1 : updS (rS cl x a0 a1 f (bel t)).ss (rX cl x (f q) (bel t q) q).id { rX cl x (f q) (bel t q) q with acc:=true } = slots 8 (inO a0 a1) (fun k=>rX cl x (f k) (bel (q + 1) k) k):=by
  refine (updS_slots (low:=lo cl) (fun k=>rfl) _).trans (slots_congr (fun k _=>⟨rfl,fun hPk=>?_⟩))
  unfold putS
  by_cases e : k = q
  ·subst e
   rw [if_pos rfl]
   unfold bel
   rw [decide_eq_true (Nat.lt_succ_self k)]
   rfl
  ·rw [if_neg e]
   have : bel t k = bel (q + 1) k:=by
    unfold bel
    by_cases c : k < t
    ·rw [decide_eq_true c,decide_eq_true (by omega)]
    ·by_cases d : k < q
     ·rw [hlt k (by omega) d] at hPk;cases hPk
     ·rw [decide_eq_false c,decide_eq_false (by omega)]
   show rX cl x (f k) (bel t k) k = _
   rw [this]
 rw [e1] at hM
 exact hM
theorem ids_done {t : Nat} (hlt : ∀ k,t ≤ k → k < 8 → inO a0 a1 k = false) (h : Mn W w a (rS cl x a0 a1 f (bel t)) R) :
  Calls Tryz.prog 25 #[ptr a.sb] w fun e w'=>e = .returned (.tuple #[.int .i64 0,.bool false]) ∧ Mn W w' a (rS cl x a0 a1 f (bel t)) R:=by
 have hl:=slots_len (N:=8) (P:=inO a0 a1) (g:=fun k=>rX cl x (f k) (bel t k) k)
 refine mn_accept_no h (by show (slots 8 (inO a0 a1) (fun k=>rX cl x (f k) (bel t k) k)).length ≤ _;omega) (slots_find_no (g:=fun k=>rX cl x (f k) (bel t k) k) (fun k hk hPk=>?_))
 show accE (!cl) (rX cl x (f k) (bel t k) k) = false
 unfold accE
 show (!isLoc (!cl) (2 * k + lo cl) && !bel t k) = _
 rw [notLoc]
 by_cases c : k < t
 ·unfold bel;rw [decide_eq_true c];rfl
 ·rw [hlt k (by omega) hk] at hPk;cases hPk
end
end
end Go.Proofs.YthckbmcmdcemkaaGreatDoor.stm
