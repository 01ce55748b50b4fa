/- Texts of this claim, one behind the other: Wa. -/
import Derived.Test.YthckbmcmdcemkaaGreatDoorBs38
set_option maxRecDepth 100000
set_option maxHeartbeats 16000000
set_option linter.unusedSimpArgs false
set_option linter.unusedVariables false
namespace Go.Proofs.YthckbmcmdcemkaaGreatDoor.stm
section
open Go.RowKit
structure Qi (i : InP) : Prop where
 sd : i.sd = false
 md : i.md = false
 nr : i.wn.near = false
structure Qt (p : SetP) : Prop where
 nr : p.wn.near = false
 dd : p.dd = false
 m0 : p.g0.md = false
 m1 : p.g1.md = false
 b0 : p.g0.bl = false
 b1 : p.g1.bl = false
 cr : p.cr.isBl = false
 o : ∀ x ∈ p.ss,∀ o,x.out = some o → o.rd = false ∧ o.cr.isBl = false
 i : ∀ x ∈ p.ss,∀ i,x.inp = some i → Qi i
theorem upd_far {r : Rcr} (h : r.near = false) : r.upd = r ∧ r.up = false:=by
 have e : r.upd = r:=by unfold Rcr.upd;rw [h];rfl
 exact ⟨e,by unfold Rcr.up;rw [e];simp⟩
section
variable {p : SetP} {x : Strm} {i : InP}
theorem cl_quiet (nr : p.wn.near = false) (dd : p.dd = false) (m0 : p.g0.md = false) (m1 : p.g1.md = false) (b : Bat) : clP p b = (p,b,true):=by
 obtain ⟨cl,loc,peer,ss,⟨o0,a0,l0,r0,f0,d0,k0,p0⟩,⟨o1,a1,l1,r1,f1,d1,k1,p1⟩,cr,wn,tot,dd',sv⟩:=p
 dsimp only at nr dd m0 m1
 subst dd m0 m1
 obtain ⟨u1,u2⟩:=upd_far nr
 unfold clP cl1 cl2 cl3 cl4
 dsimp only
 rw [u1,u2]
 rfl
theorem ctlI_quiet (h : Qi i) (id : Int) (b : Bat) : ctlI id i b = (i,b,true):=by
 obtain ⟨R,wn,rc,st,sw,sd,md,cn,fl,rcd⟩:=i
 obtain ⟨h1,h2,h3⟩:=h
 dsimp only at h1 h2 h3
 subst h1 h2
 obtain ⟨u1,u2⟩:=upd_far h3
 unfold ctlI ctlI1 ctlI2 ctlI3
 dsimp only
 rw [u1,u2]
 cases e : (!(decide (rc = 0)) || st)
 iterate 2 (· rfl)
theorem ctlIx_quiet (hi : ∀ i,x.inp = some i → Qi i) (b : Bat) : ctlIx x b = (x,b,true):=by
 obtain ⟨id,o,i,ac⟩:=x
 unfold ctlIx
 cases i with
 | none=>rfl
 | some i=>
  dsimp only
  rw [ctlI_quiet (hi i rfl)]
theorem ctl_quiet (ho : ∀ o,x.out = some o → o.rd = false) (hi : ∀ i,x.inp = some i → Qi i) (b : Bat) : ctlX x b = (x,b,true):=by
 obtain ⟨id,o,i,ac⟩:=x
 unfold ctlX
 cases o with
 | none=>exact ctlIx_quiet (x:=⟨id,none,i,ac⟩) hi b
 | some o=>
  have h:=ho o rfl
  obtain ⟨X,cr,sn,fn,rw',rd,ak,sc⟩:=o
  dsimp only at h
  subst h
  exact ctlIx_quiet (x:=⟨id,some ⟨X,cr,sn,fn,rw',false,ak,sc⟩,i,ac⟩) hi b
theorem ctlL_quiet : ∀ (l : List Strm) (b : Bat),(∀ x ∈ l,∀ o,x.out = some o → o.rd = false) → (∀ x ∈ l,∀ i,x.inp = some i → Qi i) → ctlL l b = (l,b,true)
 | [],_,_,_=>rfl
 | x :: t,b,ho,hi=>by
  unfold ctlL
  rw [ctl_quiet (ho x (by simp)) (hi x (by simp)) b]
  dsimp only
  rw [ctlL_quiet t b (fun y hy=>ho y (by simp [hy])) (fun y hy=>hi y (by simp [hy]))]
  rfl
theorem bl_no {c : Snd} (h : c.isBl = false) : c.bl = c:=by unfold Snd.bl;rw [h];rfl
theorem blX_quiet (ho : ∀ o,x.out = some o → o.cr.isBl = false) (b : Bat) : blX x b = (x,b):=by
 obtain ⟨id,o,i,ac⟩:=x
 unfold blX
 cases o with
 | none=>rfl
 | some o=>
  have h:=ho o rfl
  dsimp only
  rw [bl_no h,h]
  cases e : o.wait
  iterate 2 (· rfl)
theorem blL_quiet : ∀ (l : List Strm) (b : Bat),(∀ x ∈ l,∀ o,x.out = some o → o.cr.isBl = false) → blL l b = (l,b)
 | [],_,_=>rfl
 | x :: t,b,ho=>by
  unfold blL
  rw [blX_quiet (ho x (by simp)) b]
  dsimp only
  rw [blL_quiet t b (fun y hy=>ho y (by simp [hy]))]
theorem blP_quiet (b0 : p.g0.bl = false) (b1 : p.g1.bl = false) (cr : p.cr.isBl = false) (ho : ∀ x ∈ p.ss,∀ o,x.out = some o → o.cr.isBl = false) (b : Bat) : blP p b = (p,b):=by
 have e0 : bl0 p b = (p,b):=by unfold bl0;rw [b0];rfl
 have e1 : bl1 p b = (p,b):=by unfold bl1;rw [b1];rfl
 have e2 : bl2 p b = (p,b):=by
  unfold bl2
  rw [bl_no cr,cr]
  cases e : p.ss.any (fun x=>outWait x.out)
  iterate 2 (· rfl)
 unfold blP
 dsimp only
 rw [e0]
 dsimp only
 rw [e1]
 dsimp only
 rw [e2]
 dsimp only
 rw [blL_quiet _ _ ho]
theorem Qt.frames (h : Qt p) {m : Int} {p' : SetP} {fs : List Fr} (hf : FramesP p m p' fs) : ∃ b',Srv (cycF (p.ss.map (·.id)) p.srv) 0 p ⟨[],m⟩ p' b' ∧ fs = b'.fs:=by
 unfold FramesP at hf
 rw [cl_quiet h.nr h.dd h.m0 h.m1] at hf
 rw [if_pos rfl] at hf
 dsimp only at hf
 rw [ctlL_quiet p.ss _ (fun x hx o ho=>(h.o x hx o ho).1) h.i] at hf
 rw [if_pos rfl] at hf
 dsimp only at hf
 rw [blP_quiet h.b0 h.b1 h.cr (fun x hx o ho=>(h.o x hx o ho).2)] at hf
 obtain ⟨r,rfl,b',h1,h2⟩:=hf
 exact ⟨b',h1,h2⟩
end
theorem srv_small (s : SetP) (x : Nat) {b : Bat} (hb : b.lf < 32) : srv s x b = (s,b,false):=by
 unfold srv
 split
 ·rfl
 ·unfold srvX
  split
  ·rfl
  ·rw [if_neg (by simp;omega)]
theorem Srv.idle {l : List Nat} {i : Nat} {s s' : SetP} {b b' : Bat} (h : Srv l i s b s' b') : b.lf < 32 → s' = s ∧ b' = b:=by
 induction h with
 | stop l i s b h=>intro _;exact ⟨rfl,rfl⟩
 | go x t i s b s' b' h n ih=>
  intro hb
  rw [srv_small s x hb] at ih
  exact ih hb
theorem Srv.one {x : Nat} {t : List Nat} {s s' s1 : SetP} {b b' b1 : Bat} (h : Srv (x :: t) 0 s b s' b') (e : srv s x b = (s1,b1,true)) (hb : b1.lf < 32) : s' = s1 ∧ b' = b1:=by
 cases h with
 | stop _ _ _ _ h=>simp at h
 | go _ _ _ _ _ _ _ h n=>
  rw [e] at n
  exact n.idle hb
theorem first_none {x : Int} {l : List Int} (h : ∀ k,k < l.length → gd l k ≠ x) : first x l = l.length:=first_is (Nat.le_refl _) h (fun h=>absurd h (Nat.lt_irrefl _))
def stT (s M : Nat) : List Int:=List.replicate s 1 ++ List.replicate (M - s) 0
theorem stT_length {s M : Nat} (h : s ≤ M) : (stT s M).length = M:=by simp [stT];omega
theorem gd_stT (s M k : Nat) : gd (stT s M) k = if k < s then 1 else 0:=by
 unfold stT
 rw [gd_append]
 simp only [List.length_replicate]
 split
 ·exact gd_replicate _ _ _ ‹_›
 ·by_cases h : k - s < M - s
  ·exact gd_replicate _ _ _ h
  ·exact gd_ge (by simp;omega)
def flW (S : List Int) (s : Nat) : Wh:=⟨8192,S,stT s S.length,false,0⟩
section
variable {S : List Int} {s : Nat}
theorem flw_start {d : ByteArray} (hd : d.size ≤ 8192) : (newX 8192).write d = flW (bytesOf d) 0 ∧ (newX 8192).writeN d = d.size:=by
 have e : (newX 8192).writeN d = d.size:=by
  unfold Wh.writeN
  show min d.size ((8192 : Int) - ((0 : Nat) - (0 : Nat))).toNat = d.size
  omega
 refine ⟨?_,e⟩
 unfold Wh.write
 rw [e]
 have hl : (bytesOf d).length = d.size:=bytesOf_length d
 unfold flW stT
 rw [hl,List.take_of_length_le (by omega)]
 simp [newX]
theorem flw_sent (h : s ≤ S.length) : (flW S s).sent = s:=by
 refine first_is (by simp only [flW,stT_length h];exact h) (fun k hk=>?_) (fun hk=>?_)
 ·simp only [flW];rw [gd_stT,if_pos hk];decide
 ·simp only [flW];rw [gd_stT,if_neg (Nat.lt_irrefl _)]
theorem flw_first2 (_h : s ≤ S.length) : first 2 (flW S s).T = (flW S s).T.length:=by
 refine first_none (fun k hk=>?_)
 simp only [flW];rw [gd_stT];split <;> decide
theorem flw_next (h : s ≤ S.length) (most credit : Int) (hm : 1 ≤ most) : (flW S s).nextP most credit = if s < S.length ∧ 0 < credit then some (s,s + (min ((S.length : Int) - (s : Int)) (min most credit)).toNat) else none:=by
 unfold Wh.nextP
 rw [if_neg (by omega),if_neg (by rw [flw_first2 h];omega),flw_sent h]
 show (if s < S.length ∧ 0 < most ∧ 0 < credit then _ else _) = _
 by_cases hc : s < S.length ∧ 0 < credit
 ·rw [if_pos ⟨hc.1,by omega,hc.2⟩,if_pos hc];rfl
 ·rw [if_neg (fun hh=>hc ⟨hh.1,hh.2.2⟩),if_neg (by simp [Wh.opn,flW]),if_neg hc]
theorem flw_frame {t : Nat} (h1 : s ≤ t) (h : t ≤ S.length) : (flW S s).frame s t = flW S t:=by
 unfold Wh.frame Wh.finT
 rw [show (flW S s).opn = false from by simp [Wh.opn,flW]]
 simp only [Bool.and_false,flW,Wh.mk.injEq,true_and]
 refine ⟨?_,by simp⟩
 refine ext_gd (by rw [setTo_length,stT_length (by omega),stT_length h]) (fun j hj=>?_)
 rw [setTo_length,stT_length (by omega)] at hj
 rw [gd_setTo _ _ _ _ _ (by rw [stT_length (by omega)];omega),gd_stT,gd_stT]
 by_cases e : s ≤ j ∧ j < s + (t - s)
 ·rw [if_pos e,if_pos (by omega)]
 ·rw [if_neg e]
  by_cases e2 : j < s
  ·rw [if_pos e2,if_pos (by omega)]
  ·rw [if_neg e2,if_neg (by omega)]
theorem flw_frameR {t : Nat} : (flW S s).frameR s t = mkFr 8 s (strOfNums ((S.drop s).take (t - s))) false:=by
 unfold Wh.frameR Wh.finT
 rw [show (flW S s).opn = false from by simp [Wh.opn,flW]]
 simp [flW]
end
theorem szF_str {id off : Int} {d : ByteArray} {fin : Bool} (h1 : 0 ≤ id ∧ id ≤ 16383) (h2 : 0 ≤ off ∧ off ≤ 16383) (h3 : d.size ≤ 1024) : (d.size : Int) + 2 ≤ szF (fStr id off d fin) ∧ szF (fStr id off d fin) ≤ d.size + 7:=by
 have len : ∀ n : Int,0 ≤ n → n ≤ 16383 → 1 ≤ (frm.encV n).length ∧ (frm.encV n).length ≤ 2:=by
  intro n h0 h1
  unfold frm.encV
  have : frm.cls n = 0 ∨ frm.cls n = 1:=by
   unfold frm.cls
   rw [if_neg (by omega)]
   by_cases h : n ≤ 63
   ·rw [if_pos h];exact .inl rfl
   ·rw [if_neg h,if_pos h1];exact .inr rfl
  rcases this with e | e
  iterate 2 (· rw [e,if_neg (by decide),frm.beB_len];decide)
 have e : szF (fStr id off d fin) = ((((strOfNums [frm.headB (fStr id off d fin)] ++ strOfNums (frm.encV id)) ++ strOfNums (frm.encV off)) ++ (strOfNums (frm.encV d.size) ++ d)).size : Nat):=rfl
 rw [e]
 simp only [ByteArray.size_append,strOfNums_size,List.length_singleton]
 have a:=len id h1.1 h1.2
 have b:=len off h2.1 h2.2
 have c:=len d.size (by omega) (by omega)
 omega
end
end Go.Proofs.YthckbmcmdcemkaaGreatDoor.stm
