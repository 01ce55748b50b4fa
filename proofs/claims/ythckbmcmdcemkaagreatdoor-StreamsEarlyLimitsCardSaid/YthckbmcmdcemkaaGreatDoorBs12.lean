/- Texts of this claim, one behind the other: X. -/
import Derived.Test.YthckbmcmdcemkaaGreatDoorBs11
set_option maxRecDepth 100000
set_option maxHeartbeats 16000000
set_option linter.unusedSimpArgs false
set_option linter.unusedVariables false
namespace Go.Proofs.YthckbmcmdcemkaaGreatDoor
set_option maxRecDepth 100000
set_option maxHeartbeats 16000000
open Go.RowKit
/-- the whole history of a buffer: all written bytes, their states, the end -/
structure Wh where
 lim : Int
 S : List Int
 T : List Int
 fin : Bool
 ed : Int
namespace Wh
def u (X : Wh) : Nat:=lead X.T
def sent (X : Wh) : Nat:=first 0 X.T
def buf (X : Wh) : Bf:=⟨X.lim,X.u,X.S.drop X.u,X.T.drop X.u,X.sent,X.fin,X.ed⟩
structure Ok (X : Wh) : Prop where
 l1 : 1 ≤ X.lim
 l2 : X.lim ≤ 8192
 len : X.T.length = X.S.length
 few : X.S.length ≤ 1125899906842624
 cap : (X.S.length : Int) - X.u ≤ X.lim
 mono : ∀ j,X.sent ≤ j → gd X.T j = 0
def space (X : Wh) : Int:=if X.fin then 0 else X.lim - (X.S.length - X.u)
def writeN (X : Wh) (s : ByteArray) : Nat:=min s.size X.space.toNat
def write (X : Wh) (s : ByteArray) : Wh:={ X with S:=X.S ++ (bytesOf s).take (X.writeN s),T:=X.T ++ List.replicate (X.writeN s) 0 }
def opn (X : Wh) : Bool:=X.fin && (decide (X.ed = 0) || decide (X.ed = 2))
def nextP (X : Wh) (most credit : Int) : Option (Nat × Nat):=
 if most < 0 then none
 else if 0 < most ∧ first 2 X.T < X.T.length then some (first 2 X.T,first 2 X.T + runLen 2 (X.T.drop (first 2 X.T)) most.toNat)
 else if X.sent < X.S.length ∧ 0 < most ∧ 0 < credit then some (X.sent,X.sent + (min ((X.S.length : Int) - X.sent) (min most credit)).toNat)
 else if X.sent = X.S.length ∧ X.opn = true then some (X.sent,X.sent)
 else none
def finT (X : Wh) (t : Nat) : Bool:=decide (t = X.S.length) && X.opn
def frame (X : Wh) (f t : Nat) : Wh:={ X with T:=setTo X.T 1 f (t - f),ed:=if X.finT t then 1 else X.ed }
def frameR (X : Wh) (f t : Nat) : Fr:=mkFr 8 f (strOfNums ((X.S.drop f).take (t - f))) (X.finT t)
def nextX (X : Wh) : Option (Nat × Nat) → Wh
 | none=>X
 | some p=>X.frame p.1 p.2
def nextR (X : Wh) : Option (Nat × Nat) → Fr
 | none=>fr0
 | some p=>X.frameR p.1 p.2
end Wh
theorem Wh.u_le (X : Wh) : X.u ≤ X.T.length:=lead_le _
theorem Wh.sent_le (X : Wh) : X.sent ≤ X.T.length:=first_le _ _
theorem Wh.below_u (X : Wh) {k : Nat} (h : k < X.u) : gd X.T k = 3:=lead_lt _ _ h
theorem Wh.at_u (X : Wh) (h : X.u < X.T.length) : gd X.T X.u ≠ 3:=lead_at _ h
theorem Wh.below_sent (X : Wh) {k : Nat} (h : k < X.sent) : gd X.T k ≠ 0:=first_lt _ _ _ h
theorem Wh.u_sent (X : Wh) : X.u ≤ X.sent:=by
 rcases Nat.lt_or_ge X.sent X.u with h | h
 ·have h1:=X.below_u h
  have h2:=first_at 0 X.T (Nat.lt_of_lt_of_le h X.u_le)
  have h3 : gd X.T X.sent = 0:=h2
  rw [h3] at h1;cases h1
 ·exact h
theorem Wh.mono_of (T : List Int) (m : Nat) (hm : m ≤ T.length) (h1 : ∀ k,k < m → gd T k ≠ 0) (h2 : ∀ k,m ≤ k → gd T k = 0) : first 0 T = m ∧ ∀ j,first 0 T ≤ j → gd T j = 0:=by
 have e:=first_is hm h1 (fun _=>h2 m (Nat.le_refl _))
 exact ⟨e,fun j hj=>h2 j (by omega)⟩
theorem Wh.Ok.good {X : Wh} (h : X.Ok) : Good X.buf:=by
 have h1:=X.u_le;have h2:=X.sent_le;have h3:=X.u_sent;have h4:=h.len;have h5:=h.few;have h6:=h.cap
 refine ⟨h.l1,h.l2,by simp [Wh.buf],by simp only [Wh.buf];omega,by simp [Wh.buf,h4],by simp [Wh.buf];omega,by simp only [Wh.buf];omega,by simp [Wh.buf];omega⟩
theorem Wh.space_buf {X : Wh} (h : X.Ok) : spaceF X.buf = X.space:=by
 have h1:=X.u_le;have h4:=h.len
 unfold spaceF Wh.space
 simp only [Wh.buf,List.length_drop]
 split
 ·rfl
 ·omega
theorem Wh.writeN_buf {X : Wh} (h : X.Ok) (s : ByteArray) : Go.Proofs.YthckbmcmdcemkaaGreatDoor.writeN X.buf s = X.writeN s:=by
 unfold Go.Proofs.YthckbmcmdcemkaaGreatDoor.writeN Wh.writeN;rw [Wh.space_buf h]
theorem lead_app (T : List Int) (n : Nat) : lead (T ++ List.replicate n 0) = lead T:=by
 have hl:=lead_le T
 refine lead_is (by simp;omega) (fun k hk=>?_) (fun hk=>?_)
 ·rw [gd_append,if_pos (by omega)];exact lead_lt _ _ hk
 ·rw [gd_append]
  split
  ·exact lead_at _ ‹_›
  ·simp at hk
   rw [gd_replicate _ _ _ (by omega)];decide
theorem first_app (T : List Int) (n : Nat) : first 0 (T ++ List.replicate n 0) = first 0 T:=by
 have hl:=first_le 0 T
 refine first_is (by simp;omega) (fun k hk=>?_) (fun hk=>?_)
 ·rw [gd_append,if_pos (by omega)];exact first_lt _ _ _ hk
 ·rw [gd_append]
  split
  ·exact first_at _ _ ‹_›
  ·simp at hk
   rw [gd_replicate _ _ _ (by omega)]
theorem Wh.write_buf {X : Wh} (h : X.Ok) (s : ByteArray) : writeF X.buf s = (X.write s).buf:=by
 have h1:=X.u_le;have h4:=h.len
 have e1 : (X.write s).u = X.u:=lead_app _ _
 have e2 : (X.write s).sent = X.sent:=first_app _ _
 unfold writeF
 rw [Wh.writeN_buf h]
 simp only [Wh.buf,e1,e2,Bf.mk.injEq,true_and]
 refine ⟨rfl,?_,?_,rfl,rfl⟩
 ·show _ = (X.S ++ _).drop _
  rw [List.drop_append_of_le_length (by omega)]
 ·show _ = (X.T ++ _).drop _
  rw [List.drop_append_of_le_length (by omega)]
theorem Wh.writeN_le (X : Wh) (s : ByteArray) : X.writeN s ≤ s.size ∧ ((X.writeN s : Int) ≤ X.space ∨ X.writeN s = 0):=by unfold Wh.writeN;omega
theorem Wh.Ok.write {X : Wh} (h : X.Ok) (s : ByteArray) (hs : X.S.length + X.writeN s ≤ 1125899906842624) : (X.write s).Ok:=by
 have h1:=X.u_le;have h4:=h.len;have h6:=h.cap
 have e1 : (X.write s).u = X.u:=lead_app _ _
 have e2 : (X.write s).sent = X.sent:=first_app _ _
 have hn:=X.writeN_le s
 have hS : (X.write s).S.length = X.S.length + X.writeN s:=by simp [Wh.write,bytesOf_length];omega
 refine ⟨h.l1,h.l2,?_,by omega,?_,fun j hj=>?_⟩
 ·rw [hS];simp [Wh.write,h4]
 ·rw [hS,e1]
  show _ ≤ X.lim
  unfold Wh.space at hn
  split at hn <;> omega
 ·rw [e2] at hj
  show gd (X.T ++ _) j = 0
  rw [gd_append]
  split
  ·exact h.mono j hj
  ·by_cases hk : j - X.T.length < X.writeN s
   ·exact gd_replicate _ _ _ hk
   ·exact gd_ge (by simp;omega)
theorem Wh.open_buf (X : Wh) : openF X.buf = X.opn:=rfl
theorem Wh.first2 {X : Wh} (_ : X.Ok) : first 2 X.T = X.u + first 2 (X.T.drop X.u):=first_drop 2 X.T X.u X.u_le (fun j hj=>by rw [X.below_u hj];decide)
def Wh.shift (X : Wh) (p : Nat × Nat) : Nat × Nat:=(p.1 - X.u,p.2 - X.u)
theorem Wh.nextP_buf {X : Wh} (h : X.Ok) (most credit : Int) : Go.Proofs.YthckbmcmdcemkaaGreatDoor.nextP X.buf most credit = (X.nextP most credit).map X.shift:=by
 have h1:=X.u_le;have h4:=h.len;have h3:=X.u_sent;have h2:=X.sent_le
 have hf:=Wh.first2 h
 unfold Go.Proofs.YthckbmcmdcemkaaGreatDoor.nextP Wh.nextP
 by_cases hm : most < 0
 ·rw [if_pos hm,if_pos hm];rfl
 ·rw [if_neg hm,if_neg hm]
  have hw : writtenF X.buf = X.S.length:=by simp [writtenF,Wh.buf];omega
  have hs : X.buf.sent = X.sent:=rfl
  have hb : X.buf.base = X.u:=rfl
  have hd : (first 2 (X.T.drop X.u) < (X.T.drop X.u).length) ↔ first 2 X.T < X.T.length:=by rw [hf,List.length_drop];omega
  by_cases h0 : 0 < most ∧ first 2 X.T < X.T.length
  ·rw [if_pos h0]
   have e:=runF_eq X.buf most (by omega)
   rw [show X.buf.st = X.T.drop X.u from rfl,if_pos (hd.2 h0.2),List.drop_drop,← hf] at e
   have hr : 1 ≤ runLen 2 (X.T.drop (first 2 X.T)) most.toNat:=by
    obtain ⟨m,hm2⟩ : ∃ m,most.toNat = m + 1:=⟨most.toNat - 1,by omega⟩
    rw [hm2,List.drop_eq_getElem_cons h0.2]
    have:=first_at 2 X.T h0.2
    rw [gd_lt h0.2] at this
    rw [this];simp [runLen]
   rw [e,if_pos ⟨h0.1,by simp only [];omega⟩]
   simp only [Option.map_some,Wh.shift,Option.some.injEq,Prod.mk.injEq]
   omega
  ·rw [if_neg h0]
   have e : ¬ (0 < most ∧ (runF X.buf most).1 < (runF X.buf most).2):=by
    rintro ⟨a,b⟩
    have e:=runF_eq X.buf most (by omega)
    rw [show X.buf.st = X.T.drop X.u from rfl,if_neg (fun hh=>h0 ⟨a,hd.1 hh⟩)] at e
    rw [e] at b;simp at b
   rw [if_neg e,hw,hs,hb]
   by_cases h5 : X.sent < X.S.length ∧ 0 < most ∧ 0 < credit
   ·rw [if_pos (by omega),if_pos h5]
    simp only [Option.map_some,Wh.shift,Option.some.injEq,Prod.mk.injEq]
    omega
   ·rw [if_neg (by omega),if_neg h5]
    by_cases h6 : X.sent = X.S.length ∧ X.opn = true
    ·rw [if_pos ⟨by omega,by rw [Wh.open_buf];exact h6.2⟩,if_pos h6]
     simp only [Option.map_some,Wh.shift,Option.some.injEq,Prod.mk.injEq]
     omega
    ·rw [if_neg (fun hh=>h6 ⟨by omega,by rw [Wh.open_buf] at hh;exact hh.2⟩),if_neg h6];rfl
structure Wh.Piece (X : Wh) (f t : Nat) : Prop where
 u : X.u ≤ f
 ft : f ≤ t
 t : t ≤ X.S.length
 sent : f ≤ X.sent
theorem Wh.nextP_piece {X : Wh} (h : X.Ok) {most credit : Int} {p : Nat × Nat} (hp : X.nextP most credit = some p) : X.Piece p.1 p.2:=by
 have h1:=X.u_le;have h4:=h.len;have h3:=X.u_sent;have h2:=X.sent_le
 have hf:=Wh.first2 h
 unfold Wh.nextP at hp
 split at hp
 ·cases hp
 ·split at hp
  ·rename_i h0
   cases hp
   have hr:=(runLen_le 2 (X.T.drop (first 2 X.T)) most.toNat).2
   simp only [List.length_drop] at hr
   refine ⟨by simp only [];omega,by simp only [];omega,by simp only [];omega,?_⟩
   simp only []
   rcases Nat.lt_or_ge X.sent (first 2 X.T) with h9 | h9
   ·have:=first_at 2 X.T h0.2
    rw [h.mono (first 2 X.T) (by omega)] at this
    cases this
   ·exact h9
  ·split at hp
   ·cases hp;exact ⟨h3,by simp only [];omega,by simp only [];omega,Nat.le_refl _⟩
   ·split at hp
    ·cases hp;exact ⟨h3,Nat.le_refl _,by simp only [];omega,Nat.le_refl _⟩
    ·cases hp
theorem Wh.frame_u {X : Wh} (h : X.Ok) {f t : Nat} (hp : X.Piece f t) : (X.frame f t).u = X.u:=by
 have h1:=X.u_le;have h4:=h.len
 obtain ⟨a,b,c,d⟩:=hp
 refine lead_is (by simp only [Wh.frame,setTo_length];exact h1) (fun k hk=>?_) (fun hk=>?_)
 ·simp only [Wh.frame];rw [gd_setTo _ _ _ _ _ (by omega),if_neg (by omega)];exact X.below_u hk
 ·simp only [Wh.frame,setTo_length] at hk ⊢
  rw [gd_setTo _ _ _ _ _ (by omega)]
  split
  ·decide
  ·exact X.at_u hk
theorem Wh.frame_sent {X : Wh} (h : X.Ok) {f t : Nat} (hp : X.Piece f t) : (X.frame f t).sent = max X.sent t ∧ ∀ j,(X.frame f t).sent ≤ j → gd (X.frame f t).T j = 0:=by
 have h2:=X.sent_le;have h4:=h.len
 obtain ⟨a,b,c,d⟩:=hp
 have:=Wh.mono_of (X.frame f t).T (max X.sent t) (by simp only [Wh.frame,setTo_length];omega) (fun k hk=>?_) (fun k hk=>?_)
 ·exact this
 ·simp only [Wh.frame]
  rw [gd_setTo _ _ _ _ _ (by omega)]
  split
  ·decide
  ·exact X.below_sent (by omega)
 ·simp only [Wh.frame]
  rw [gd_setTo _ _ _ _ _ (by omega),if_neg (by omega)]
  exact h.mono k (by omega)
theorem Wh.Ok.frame {X : Wh} (h : X.Ok) {f t : Nat} (hp : X.Piece f t) : (X.frame f t).Ok:=
 ⟨h.l1,h.l2,by simp only [Wh.frame,setTo_length];exact h.len,h.few,by rw [Wh.frame_u h hp];exact h.cap,(Wh.frame_sent h hp).2⟩
theorem Wh.fin_buf {X : Wh} (h : X.Ok) {f t : Nat} (hp : X.Piece f t) : finF X.buf (t - X.u) = X.finT t:=by
 have h1:=X.u_le;have h4:=h.len
 obtain ⟨a,b,c,d⟩:=hp
 unfold finF Wh.finT
 rw [Wh.open_buf]
 congr 1
 simp only [Wh.buf,List.length_drop]
 apply decide_eq_decide.2
 omega
theorem sentUp_eq (B : Bf) (t : Nat) : sentUp B t = max B.sent (B.base + t):=by unfold sentUp;split <;> omega
theorem Wh.frame_buf {X : Wh} (h : X.Ok) {f t : Nat} (hp : X.Piece f t) : frameB X.buf (f - X.u) (t - X.u) = (X.frame f t).buf:=by
 have h1:=X.u_le;have h4:=h.len
 have e1:=Wh.frame_u h hp
 have e2:=(Wh.frame_sent h hp).1
 have e3:=Wh.fin_buf h hp
 obtain ⟨a,b,c,d⟩:=hp
 unfold frameB
 rw [e3,sentUp_eq]
 simp only [Wh.buf,e1,e2,Bf.mk.injEq,true_and]
 refine ⟨rfl,rfl,?_,?_,rfl,rfl⟩
 ·refine ext_gd (by simp [setTo_length,Wh.frame]) (fun j hj=>?_)
  simp only [setTo_length,List.length_drop] at hj
  rw [gd_setTo _ _ _ _ _ (by simp only [List.length_drop];omega),gd_drop,gd_drop]
  simp only [Wh.frame]
  rw [gd_setTo _ _ _ _ _ (by omega)]
  by_cases e : f ≤ X.u + j ∧ X.u + j < f + (t - f)
  ·rw [if_pos e,if_pos (by omega)]
  ·rw [if_neg e,if_neg (by omega)]
 ·omega
theorem Wh.frameR_buf {X : Wh} (h : X.Ok) {f t : Nat} (hp : X.Piece f t) : Go.Proofs.YthckbmcmdcemkaaGreatDoor.frameR X.buf (f - X.u) (t - X.u) = X.frameR f t:=by
 have e3:=Wh.fin_buf h hp
 obtain ⟨a,b,c,d⟩:=hp
 unfold Go.Proofs.YthckbmcmdcemkaaGreatDoor.frameR Wh.frameR
 rw [e3]
 simp only [Wh.buf,List.drop_drop]
 rw [show X.u + (f - X.u) = f by omega,show t - X.u - (f - X.u) = t - f by omega,show ((X.u : Int) + ((f - X.u : Nat) : Int)) = f by omega]
theorem Wh.Ok.next {X : Wh} (h : X.Ok) (most credit : Int) : (X.nextX (X.nextP most credit)).Ok:=by
 cases hp : X.nextP most credit with
 | none=>exact h
 | some p=>exact h.frame (Wh.nextP_piece h hp)
theorem Wh.nextX_buf {X : Wh} (h : X.Ok) (most credit : Int) : nextB X.buf (Go.Proofs.YthckbmcmdcemkaaGreatDoor.nextP X.buf most credit) = (X.nextX (X.nextP most credit)).buf:=by
 rw [Wh.nextP_buf h]
 cases hp : X.nextP most credit with
 | none=>rfl
 | some p=>exact Wh.frame_buf h (Wh.nextP_piece h hp)
theorem Wh.nextR_buf {X : Wh} (h : X.Ok) (most credit : Int) : Go.Proofs.YthckbmcmdcemkaaGreatDoor.nextR X.buf (Go.Proofs.YthckbmcmdcemkaaGreatDoor.nextP X.buf most credit) = X.nextR (X.nextP most credit):=by
 rw [Wh.nextP_buf h]
 cases hp : X.nextP most credit with
 | none=>rfl
 | some p=>exact Wh.frameR_buf h (Wh.nextP_piece h hp)
theorem Wh.isSome_buf {X : Wh} (h : X.Ok) (most credit : Int) : (Go.Proofs.YthckbmcmdcemkaaGreatDoor.nextP X.buf most credit).isSome = (X.nextP most credit).isSome:=by
 rw [Wh.nextP_buf h];simp
section
variable {W w : World} {b : Nat} {F : Nat → Prop} {fs : List (Nat × Fr)} {X : Wh}
end
theorem Wh.Ok.finish {X : Wh} (h : X.Ok) : ({ X with fin:=true } : Wh).Ok:=⟨h.l1,h.l2,h.len,h.few,h.cap,h.mono⟩
def newX (n : Int) : Wh:=⟨n,[],[],false,0⟩
theorem newX_ok (n : Int) (h1 : 1 ≤ n) (h2 : n ≤ 8192) : (newX n).Ok:=⟨h1,h2,rfl,by simp [newX],by simp [newX,Wh.u];omega,fun j _=>rfl⟩
end Go.Proofs.YthckbmcmdcemkaaGreatDoor
