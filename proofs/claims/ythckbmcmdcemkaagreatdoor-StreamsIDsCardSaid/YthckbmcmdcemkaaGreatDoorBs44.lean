/- Texts of this claim, one behind the other: Wa Vb Wd. -/
import Derived.Test.YthckbmcmdcemkaaGreatDoorBs38
import Derived.Test.YthckbmcmdcemkaaGreatDoorBs6
import Derived.OwnWalk
set_option maxRecDepth 100000
set_option maxHeartbeats 16000000
set_option linter.unusedSimpArgs false
set_option linter.unusedVariables false
namespace Go.Proofs.YthckbmcmdcemkaaGreatDoor.stm
section
open Go.RowKit
structure Qi (i : InP) : Prop where
 sd : i.sd = false
 md : i.md = false
 nr : i.wn.near = false
structure Qt (p : SetP) : Prop where
 nr : p.wn.near = false
 dd : p.dd = false
 m0 : p.g0.md = false
 m1 : p.g1.md = false
 b0 : p.g0.bl = false
 b1 : p.g1.bl = false
 cr : p.cr.isBl = false
 o : ∀ x ∈ p.ss,∀ o,x.out = some o → o.rd = false ∧ o.cr.isBl = false
 i : ∀ x ∈ p.ss,∀ i,x.inp = some i → Qi i
theorem upd_far {r : Rcr} (h : r.near = false) : r.upd = r ∧ r.up = false:=by
 have e : r.upd = r:=by unfold Rcr.upd;rw [h];rfl
 exact ⟨e,by unfold Rcr.up;rw [e];simp⟩
section
variable {p : SetP} {x : Strm} {i : InP}
theorem cl_quiet (nr : p.wn.near = false) (dd : p.dd = false) (m0 : p.g0.md = false) (m1 : p.g1.md = false) (b : Bat) : clP p b = (p,b,true):=by
 obtain ⟨cl,loc,peer,ss,⟨o0,a0,l0,r0,f0,d0,k0,p0⟩,⟨o1,a1,l1,r1,f1,d1,k1,p1⟩,cr,wn,tot,dd',sv⟩:=p
 dsimp only at nr dd m0 m1
 subst dd m0 m1
 obtain ⟨u1,u2⟩:=upd_far nr
 unfold clP cl1 cl2 cl3 cl4
 dsimp only
 rw [u1,u2]
 rfl
theorem ctlI_quiet (h : Qi i) (id : Int) (b : Bat) : ctlI id i b = (i,b,true):=by
 obtain ⟨R,wn,rc,st,sw,sd,md,cn,fl,rcd⟩:=i
 obtain ⟨h1,h2,h3⟩:=h
 dsimp only at h1 h2 h3
 subst h1 h2
 obtain ⟨u1,u2⟩:=upd_far h3
 unfold ctlI ctlI1 ctlI2 ctlI3
 dsimp only
 rw [u1,u2]
 cases e : (!(decide (rc = 0)) || st)
 iterate 2 (· rfl)
theorem ctlIx_quiet (hi : ∀ i,x.inp = some i → Qi i) (b : Bat) : ctlIx x b = (x,b,true):=by
 obtain ⟨id,o,i,ac⟩:=x
 unfold ctlIx
 cases i with
 | none=>rfl
 | some i=>
  dsimp only
  rw [ctlI_quiet (hi i rfl)]
theorem ctl_quiet (ho : ∀ o,x.out = some o → o.rd = false) (hi : ∀ i,x.inp = some i → Qi i) (b : Bat) : ctlX x b = (x,b,true):=by
 obtain ⟨id,o,i,ac⟩:=x
 unfold ctlX
 cases o with
 | none=>exact ctlIx_quiet (x:=⟨id,none,i,ac⟩) hi b
 | some o=>
  have h:=ho o rfl
  obtain ⟨X,cr,sn,fn,rw',rd,ak,sc⟩:=o
  dsimp only at h
  subst h
  exact ctlIx_quiet (x:=⟨id,some ⟨X,cr,sn,fn,rw',false,ak,sc⟩,i,ac⟩) hi b
theorem ctlL_quiet : ∀ (l : List Strm) (b : Bat),(∀ x ∈ l,∀ o,x.out = some o → o.rd = false) → (∀ x ∈ l,∀ i,x.inp = some i → Qi i) → ctlL l b = (l,b,true)
 | [],_,_,_=>rfl
 | x :: t,b,ho,hi=>by
  unfold ctlL
  rw [ctl_quiet (ho x (by simp)) (hi x (by simp)) b]
  dsimp only
  rw [ctlL_quiet t b (fun y hy=>ho y (by simp [hy])) (fun y hy=>hi y (by simp [hy]))]
  rfl
theorem bl_no {c : Snd} (h : c.isBl = false) : c.bl = c:=by unfold Snd.bl;rw [h];rfl
theorem blX_quiet (ho : ∀ o,x.out = some o → o.cr.isBl = false) (b : Bat) : blX x b = (x,b):=by
 obtain ⟨id,o,i,ac⟩:=x
 unfold blX
 cases o with
 | none=>rfl
 | some o=>
  have h:=ho o rfl
  dsimp only
  rw [bl_no h,h]
  cases e : o.wait
  iterate 2 (· rfl)
theorem blL_quiet : ∀ (l : List Strm) (b : Bat),(∀ x ∈ l,∀ o,x.out = some o → o.cr.isBl = false) → blL l b = (l,b)
 | [],_,_=>rfl
 | x :: t,b,ho=>by
  unfold blL
  rw [blX_quiet (ho x (by simp)) b]
  dsimp only
  rw [blL_quiet t b (fun y hy=>ho y (by simp [hy]))]
theorem blP_quiet (b0 : p.g0.bl = false) (b1 : p.g1.bl = false) (cr : p.cr.isBl = false) (ho : ∀ x ∈ p.ss,∀ o,x.out = some o → o.cr.isBl = false) (b : Bat) : blP p b = (p,b):=by
 have e0 : bl0 p b = (p,b):=by unfold bl0;rw [b0];rfl
 have e1 : bl1 p b = (p,b):=by unfold bl1;rw [b1];rfl
 have e2 : bl2 p b = (p,b):=by
  unfold bl2
  rw [bl_no cr,cr]
  cases e : p.ss.any (fun x=>outWait x.out)
  iterate 2 (· rfl)
 unfold blP
 dsimp only
 rw [e0]
 dsimp only
 rw [e1]
 dsimp only
 rw [e2]
 dsimp only
 rw [blL_quiet _ _ ho]
theorem Qt.frames (h : Qt p) {m : Int} {p' : SetP} {fs : List Fr} (hf : FramesP p m p' fs) : ∃ b',Srv (cycF (p.ss.map (·.id)) p.srv) 0 p ⟨[],m⟩ p' b' ∧ fs = b'.fs:=by
 unfold FramesP at hf
 rw [cl_quiet h.nr h.dd h.m0 h.m1] at hf
 rw [if_pos rfl] at hf
 dsimp only at hf
 rw [ctlL_quiet p.ss _ (fun x hx o ho=>(h.o x hx o ho).1) h.i] at hf
 rw [if_pos rfl] at hf
 dsimp only at hf
 rw [blP_quiet h.b0 h.b1 h.cr (fun x hx o ho=>(h.o x hx o ho).2)] at hf
 obtain ⟨r,rfl,b',h1,h2⟩:=hf
 exact ⟨b',h1,h2⟩
end
theorem srv_small (s : SetP) (x : Nat) {b : Bat} (hb : b.lf < 32) : srv s x b = (s,b,false):=by
 unfold srv
 split
 ·rfl
 ·unfold srvX
  split
  ·rfl
  ·rw [if_neg (by simp;omega)]
theorem Srv.idle {l : List Nat} {i : Nat} {s s' : SetP} {b b' : Bat} (h : Srv l i s b s' b') : b.lf < 32 → s' = s ∧ b' = b:=by
 induction h with
 | stop l i s b h=>intro _;exact ⟨rfl,rfl⟩
 | go x t i s b s' b' h n ih=>
  intro hb
  rw [srv_small s x hb] at ih
  exact ih hb
theorem Srv.one {x : Nat} {t : List Nat} {s s' s1 : SetP} {b b' b1 : Bat} (h : Srv (x :: t) 0 s b s' b') (e : srv s x b = (s1,b1,true)) (hb : b1.lf < 32) : s' = s1 ∧ b' = b1:=by
 cases h with
 | stop _ _ _ _ h=>simp at h
 | go _ _ _ _ _ _ _ h n=>
  rw [e] at n
  exact n.idle hb
theorem first_none {x : Int} {l : List Int} (h : ∀ k,k < l.length → gd l k ≠ x) : first x l = l.length:=first_is (Nat.le_refl _) h (fun h=>absurd h (Nat.lt_irrefl _))
def stT (s M : Nat) : List Int:=List.replicate s 1 ++ List.replicate (M - s) 0
theorem stT_length {s M : Nat} (h : s ≤ M) : (stT s M).length = M:=by simp [stT];omega
theorem gd_stT (s M k : Nat) : gd (stT s M) k = if k < s then 1 else 0:=by
 unfold stT
 rw [gd_append]
 simp only [List.length_replicate]
 split
 ·exact gd_replicate _ _ _ ‹_›
 ·by_cases h : k - s < M - s
  ·exact gd_replicate _ _ _ h
  ·exact gd_ge (by simp;omega)
def flW (S : List Int) (s : Nat) : Wh:=⟨8192,S,stT s S.length,false,0⟩
section
variable {S : List Int} {s : Nat}
theorem flw_start {d : ByteArray} (hd : d.size ≤ 8192) : (newX 8192).write d = flW (bytesOf d) 0 ∧ (newX 8192).writeN d = d.size:=by
 have e : (newX 8192).writeN d = d.size:=by
  unfold Wh.writeN
  show min d.size ((8192 : Int) - ((0 : Nat) - (0 : Nat))).toNat = d.size
  omega
 refine ⟨?_,e⟩
 unfold Wh.write
 rw [e]
 have hl : (bytesOf d).length = d.size:=bytesOf_length d
 unfold flW stT
 rw [hl,List.take_of_length_le (by omega)]
 simp [newX]
theorem flw_sent (h : s ≤ S.length) : (flW S s).sent = s:=by
 refine first_is (by simp only [flW,stT_length h];exact h) (fun k hk=>?_) (fun hk=>?_)
 ·simp only [flW];rw [gd_stT,if_pos hk];decide
 ·simp only [flW];rw [gd_stT,if_neg (Nat.lt_irrefl _)]
theorem flw_first2 (_h : s ≤ S.length) : first 2 (flW S s).T = (flW S s).T.length:=by
 refine first_none (fun k hk=>?_)
 simp only [flW];rw [gd_stT];split <;> decide
theorem flw_next (h : s ≤ S.length) (most credit : Int) (hm : 1 ≤ most) : (flW S s).nextP most credit = if s < S.length ∧ 0 < credit then some (s,s + (min ((S.length : Int) - (s : Int)) (min most credit)).toNat) else none:=by
 unfold Wh.nextP
 rw [if_neg (by omega),if_neg (by rw [flw_first2 h];omega),flw_sent h]
 show (if s < S.length ∧ 0 < most ∧ 0 < credit then _ else _) = _
 by_cases hc : s < S.length ∧ 0 < credit
 ·rw [if_pos ⟨hc.1,by omega,hc.2⟩,if_pos hc];rfl
 ·rw [if_neg (fun hh=>hc ⟨hh.1,hh.2.2⟩),if_neg (by simp [Wh.opn,flW]),if_neg hc]
theorem flw_frame {t : Nat} (h1 : s ≤ t) (h : t ≤ S.length) : (flW S s).frame s t = flW S t:=by
 unfold Wh.frame Wh.finT
 rw [show (flW S s).opn = false from by simp [Wh.opn,flW]]
 simp only [Bool.and_false,flW,Wh.mk.injEq,true_and]
 refine ⟨?_,by simp⟩
 refine ext_gd (by rw [setTo_length,stT_length (by omega),stT_length h]) (fun j hj=>?_)
 rw [setTo_length,stT_length (by omega)] at hj
 rw [gd_setTo _ _ _ _ _ (by rw [stT_length (by omega)];omega),gd_stT,gd_stT]
 by_cases e : s ≤ j ∧ j < s + (t - s)
 ·rw [if_pos e,if_pos (by omega)]
 ·rw [if_neg e]
  by_cases e2 : j < s
  ·rw [if_pos e2,if_pos (by omega)]
  ·rw [if_neg e2,if_neg (by omega)]
theorem flw_frameR {t : Nat} : (flW S s).frameR s t = mkFr 8 s (strOfNums ((S.drop s).take (t - s))) false:=by
 unfold Wh.frameR Wh.finT
 rw [show (flW S s).opn = false from by simp [Wh.opn,flW]]
 simp [flW]
end
theorem szF_str {id off : Int} {d : ByteArray} {fin : Bool} (h1 : 0 ≤ id ∧ id ≤ 16383) (h2 : 0 ≤ off ∧ off ≤ 16383) (h3 : d.size ≤ 1024) : (d.size : Int) + 2 ≤ szF (fStr id off d fin) ∧ szF (fStr id off d fin) ≤ d.size + 7:=by
 have len : ∀ n : Int,0 ≤ n → n ≤ 16383 → 1 ≤ (frm.encV n).length ∧ (frm.encV n).length ≤ 2:=by
  intro n h0 h1
  unfold frm.encV
  have : frm.cls n = 0 ∨ frm.cls n = 1:=by
   unfold frm.cls
   rw [if_neg (by omega)]
   by_cases h : n ≤ 63
   ·rw [if_pos h];exact .inl rfl
   ·rw [if_neg h,if_pos h1];exact .inr rfl
  rcases this with e | e
  iterate 2 (· rw [e,if_neg (by decide),frm.beB_len];decide)
 have e : szF (fStr id off d fin) = ((((strOfNums [frm.headB (fStr id off d fin)] ++ strOfNums (frm.encV id)) ++ strOfNums (frm.encV off)) ++ (strOfNums (frm.encV d.size) ++ d)).size : Nat):=rfl
 rw [e]
 simp only [ByteArray.size_append,strOfNums_size,List.length_singleton]
 have a:=len id h1.1 h1.2
 have b:=len off h2.1 h2.2
 have c:=len d.size (by omega) (by omega)
 omega
end
section
open Go.RowKit
theorem own_set {w : World} {e : TypeId} {g n cap : Nat} {xs : List Int} (h : w.ownsRow 0 e 1 (.slice (some ⟨g,0,none⟩) n cap) n (xs.map (.int .u8))) (k : Nat) (v : Int) :
  (w.setCell ⟨g,k,none⟩ (.int .u8 v)).ownsRow 0 e 1 (.slice (some ⟨g,0,none⟩) n cap) n ((xs.set k v).map (.int .u8)):=by
 obtain ⟨hl,h⟩:=h
 rcases h with ⟨e,_⟩ | ⟨g',cap',cur,e,h2,h3,h4,h5,h6,h7⟩
 ·cases e
 ·simp only [Value.slice.injEq,Option.some.injEq,Addr.mk.injEq] at e
  obtain ⟨⟨rfl,_,_⟩,_,rfl⟩:=e
  refine ⟨by simpa using hl,.inr ⟨g,cap,cur.setIfInBounds k (.int .u8 v),rfl,h2,heap_set _ h3,h4,h5,by simpa using h6,?_⟩⟩
  rw [Array.toList_setIfInBounds,List.take_set,h7,List.map_set]
def cAt (id off j : Nat) : Int:=97 + (((off + j) * 7 + (off + j) / 26 + id) % 26 : Nat)
def cRow (f : Nat → Int) (n k : Nat) : List Int:=(List.range n).map (fun j=>if j < k then f j else 0)
theorem cRow_length (f : Nat → Int) (n k : Nat) : (cRow f n k).length = n:=by simp [cRow]
theorem cRow_succ (f : Nat → Int) (n k : Nat) (h : k < n) : (cRow f n k).set k (f k) = cRow f n (k + 1):=by
 apply List.ext_getElem?
 intro j
 rw [List.getElem?_set]
 simp only [cRow,List.length_map,List.length_range,List.getElem?_map]
 by_cases hj : j < n
 ·rw [List.getElem?_range hj]
  by_cases e : k = j
  ·subst e;simp [h]
  ·rw [if_neg e];simp only [Option.map_some];congr 1
   by_cases h1 : j < k
   ·rw [if_pos h1,if_pos (by omega)]
   ·rw [if_neg h1,if_neg (by omega)]
 ·rw [List.getElem?_eq_none (by simp;omega)];simp;omega
theorem cRow_zero (f : Nat → Int) (n : Nat) : (cRow f n 0).map (Value.int .u8) = List.replicate n (.int .u8 0):=by
 rw [cRow,List.map_map]
 apply List.ext_getElem?
 intro j
 simp [List.getElem?_replicate]
 by_cases h : j < n
 iterate 2 (· simp [h])
def cont (id off n : Nat) : ByteArray:=strOfNums (cRow (cAt id off) n n)
theorem cont_size (id off n : Nat) : (cont id off n).size = n:=by unfold cont;rw [strOfNums_size,cRow_length]
theorem madeCells_u8 (f : Nat → Int) (n : Nat) : (madeCells (Value.int .u8 0).cells (n * 1)).toList = (cRow f n 0).map (Value.int .u8):=by
 rw [cRow_zero]
 simp only [madeCells,Value.cells,Nat.mul_one]
 apply List.ext_getElem?
 intro j
 by_cases h : j < n
 ·simp [h,Nat.mod_one]
 ·simp [h]
theorem below_setOwn {w wr : World} (h : Below w.heap.size w wr) (k : Nat) (v : Value) : Below w.heap.size w (wr.setCell ⟨w.heap.size,k,none⟩ v):=h.setCell (Nat.le_refl _) _
theorem content_any (id off n : Nat) (w : World) (hid : id ≤ 1000) (hoff : off ≤ 1000000) (hn : n ≤ 1000000) :
  Calls Tryz.prog 20 #[.int .i64 id,.int .i64 off,.int .i64 n] w fun e w'=>e = .returned (.string (cont id off n)) ∧ Below w.heap.size w w':=by
 obtain ⟨i5,p1,p2,p3,p4⟩:=facts5
 have P1:=Lib.hid p1;have P2:=Lib.hid p2;have P3:=Lib.hid p3;have P4:=Lib.hid p4
 clear p1 p2 p3 p4
 have HH:=Lib.hid (And.intro hid (And.intro hoff hn))
 go_enter Tryz.func20,Tryz.ntmps20
 go_wp2_with (refine wpList_make_full w rfl (.tmp 9) (.tmp 9) 52 rfl 0 5 i5 _ 1 Tryz.underlying52 P1.out P2.out P3.out .i64 .i64 _ _ n rfl rfl rfl rfl (by rw [P4.out];omega) (by unfold maxLen;omega) (Nat.zero_le _) ?_;intro w1 ho hg)
 have HO : Hid (w1.ownsRow 0 5 1 (.slice (some ⟨w.heap.size,0,none⟩) n n) n ((cRow (cAt id off) n 0).map (.int .u8))):=Lib.hid (by rw [← madeCells_u8];exact ho)
 have HB : Hid (Below w.heap.size w w1):=Lib.hid ⟨hg.os,hg.tape,hg.output,hg.size,fun k hk=>hg.block k hk (by simp)⟩
 clear ho hg
 go_loopw [8] (fun i wr=>∃ k : Nat,k ≤ n ∧ i = .int .i64 k ∧ Hid (wr.ownsRow 0 5 1 (.slice (some ⟨w.heap.size,0,none⟩) n n) n ((cRow (cAt id off) n k).map (.int .u8))) ∧ Hid (Below w.heap.size w wr)) (fun i _=>n - (intOf i).toNat)
 case atStart=>exact ⟨0,Nat.zero_le _,rfl,HO,HB⟩
 case round=>
  obtain ⟨k,hk,rfl,HO,HB⟩:=hrel
  by_cases hlt : k < n
  ·have hc : wr.cell? ⟨w.heap.size,k,none⟩ = some (.int .u8 ((cRow (cAt id off) n k)[k]?.getD 0)) ∧ wr.frozen? ⟨w.heap.size,k,none⟩ = false:=by
    obtain ⟨g,cap,e,_,_,h1,h2⟩:=own_cells HO.out (by omega)
    simp only [Value.slice.injEq,Option.some.injEq,Addr.mk.injEq] at e
    obtain ⟨⟨rfl,_,_⟩,_,rfl⟩:=e
    exact ⟨h1 k hlt,h2 k⟩
   obtain ⟨hc1,hc2⟩:=hc
   generalize (cRow (cAt id off) n k)[k]?.getD 0 = x at hc1
   have HN : Hid (((wr.setCell ⟨w.heap.size,k,none⟩ (.int .u8 (cAt id off k)))).ownsRow 0 5 1 (.slice (some ⟨w.heap.size,0,none⟩) n n) n ((cRow (cAt id off) n (k+1)).map (.int .u8))):=Lib.hid (by rw [← cRow_succ _ n k hlt];exact own_set HO.out k _)
   have HB2:=Lib.hid (below_setOwn HB.out k (.int .u8 (cAt id off k)))
   clear HO HB
   have e0 : IntKind.u8.wrap (97 + (((off : Int) + (k : Int)) * 7 + ((off : Int) + (k : Int)) / 26 + (id : Int)) % 26) = cAt id off k:=by
    rw [show cAt id off k = 97 + (((off : Int) + (k : Int)) * 7 + ((off : Int) + (k : Int)) / 26 + (id : Int)) % 26 from by unfold cAt;push_cast;rfl]
    exact IntWalk.u8_in _ (by omega)
   go_wp2
   go_roundw
   case rel=>exact ⟨k + 1,by omega,by go_num,HN,HB2⟩
   case measure=>simp [intOf];omega
  ·have : k = n:=by omega
   subst this
   have hcv : ∀ dst,Tryz.prog.underlying dst = some .string → (convert 52 dst (.slice (some ⟨w.heap.size,0,none⟩) k k)).run Tryz.prog wr = .ok (.string (strOfNums (cRow (cAt id off) k k))) wr:=by
    rcases Nat.eq_zero_or_pos k with h0 | h0
    ·subst h0
     exact run_convert_bytes_arg wr 52 5 Tryz.underlying52 Tryz.underlying5 w.heap.size 0 0 0 [] rfl (fun i hi=>by omega)
    ·obtain ⟨g,cap,e,_,_,h1,h2⟩:=own_cells HO.out h0
     simp only [Value.slice.injEq,Option.some.injEq,Addr.mk.injEq] at e
     obtain ⟨⟨rfl,_,_⟩,_,rfl⟩:=e
     exact run_convert_bytes_arg wr 52 5 Tryz.underlying52 Tryz.underlying5 w.heap.size 0 k k (cRow (cAt id off) k k) (cRow_length _ _ _) (fun i hi=>by rw [Nat.zero_add,h1 i hi,List.getD_eq_getElem?_getD])
   have HB3:=HB
   clear HO HB
   have hcv9:=hcv 9 Tryz.underlying9
   go_wp2
   go_ret
   exact ⟨rfl,HB3.out⟩
end
section
open Go.RowKit
def slots (N : Nat) (P : Nat → Bool) (g : Nat → Strm) : List Strm:=((List.range N).filter P).map g
theorem insP_split (x : Strm) : ∀ (l1 l2 : List Strm),(∀ e ∈ l1,¬ x.id < e.id) → (∀ e ∈ l2,x.id < e.id) → insP x (l1 ++ l2) = l1 ++ x :: l2
 | [],[],_,_=>rfl
 | [],y :: l,_,h2=>by
  simp only [List.nil_append]
  unfold insP
  rw [if_pos (h2 y (by simp))]
 | y :: l,l2,h1,h2=>by
  simp only [List.cons_append]
  unfold insP
  rw [if_neg (h1 y (by simp)),insP_split x l l2 (fun e he=>h1 e (by simp [he])) h2]
theorem range_split {N q : Nat} (hq : q < N) : List.range N = List.range q ++ q :: List.range' (q + 1) (N - q - 1):=by
 apply List.ext_getElem?
 intro k
 by_cases h1 : k < q
 ·rw [List.getElem?_append_left (by simpa using h1),List.getElem?_range h1,List.getElem?_range (by omega)]
 ·rw [List.getElem?_append_right (by simp;omega),List.length_range]
  by_cases h2 : k = q
  ·subst h2;simp [hq]
  ·obtain ⟨m,hm⟩ : ∃ m,k - q = m + 1:=⟨k - q - 1,by omega⟩
   rw [hm,List.getElem?_cons_succ]
   by_cases h3 : k < N
   ·rw [List.getElem?_range h3,List.getElem?_range' (by omega)]
    simp;omega
   ·rw [List.getElem?_eq_none (by simp;omega),List.getElem?_eq_none (by simp;omega)]
section
variable {N q : Nat} {P : Nat → Bool} {g : Nat → Strm}
def lowS (q : Nat) (P : Nat → Bool) (g : Nat → Strm) : List Strm:=((List.range q).filter P).map g
def highS (N q : Nat) (P : Nat → Bool) (g : Nat → Strm) : List Strm:=((List.range' (q + 1) (N - q - 1)).filter P).map g
theorem slots_at (hq : q < N) (hP : P q = true) : slots N P g = lowS q P g ++ g q :: highS N q P g:=by
 unfold slots lowS highS
 rw [range_split hq,List.filter_append,List.filter_cons_of_pos hP,List.map_append,List.map_cons]
theorem slots_no (hq : q < N) (hP : P q = false) : slots N P g = lowS q P g ++ highS N q P g:=by
 unfold slots lowS highS
 rw [range_split hq,List.filter_append,List.filter_cons_of_neg (by simp [hP]),List.map_append]
theorem lowS_congr {P' : Nat → Bool} {g' : Nat → Strm} (h : ∀ k,k < q → P k = P' k ∧ (P k = true → g k = g' k)) : lowS q P g = lowS q P' g':=by
 unfold lowS
 have e : (List.range q).filter P = (List.range q).filter P':=List.filter_congr (fun k hk=>(h k (List.mem_range.mp hk)).1)
 rw [← e]
 refine List.map_congr_left (fun k hk=>?_)
 rw [List.mem_filter] at hk
 exact (h k (List.mem_range.mp hk.1)).2 hk.2
theorem highS_congr {P' : Nat → Bool} {g' : Nat → Strm} (h : ∀ k,q < k → P k = P' k ∧ (P k = true → g k = g' k)) : highS N q P g = highS N q P' g':=by
 unfold highS
 have m : ∀ k,k ∈ List.range' (q + 1) (N - q - 1) → q < k:=fun k hk=>by
  rw [List.mem_range'_1] at hk;omega
 have e : (List.range' (q + 1) (N - q - 1)).filter P = (List.range' (q + 1) (N - q - 1)).filter P':=List.filter_congr (fun k hk=>(h k (m k hk)).1)
 rw [← e]
 refine List.map_congr_left (fun k hk=>?_)
 rw [List.mem_filter] at hk
 exact (h k (m k hk.1)).2 hk.2
theorem slots_mem {e : Strm} (h : e ∈ slots N P g) : ∃ k,k < N ∧ P k = true ∧ e = g k:=by
 unfold slots at h
 rw [List.mem_map] at h
 obtain ⟨k,hk,rfl⟩:=h
 rw [List.mem_filter,List.mem_range] at hk
 exact ⟨k,hk.1,hk.2,rfl⟩
theorem slots_len : (slots N P g).length ≤ N:=by
 unfold slots
 rw [List.length_map]
 have:=List.length_filter_le P (List.range N)
 simpa using this
def addS (P : Nat → Bool) (q : Nat) : Nat → Bool:=fun k=>P k || k == q
def putS (g : Nat → Strm) (q : Nat) (x : Strm) : Nat → Strm:=fun k=>if k = q then x else g k
theorem slots_ins (hq : q < N) (hP : P q = false) (low : Nat) (hg : ∀ k,(g k).id = 2 * k + low) {x : Strm} (hx : x.id = 2 * q + low) : insP x (slots N P g) = slots N (addS P q) (putS g q x):=by
 rw [slots_no hq hP,slots_at (P:=addS P q) hq (by simp [addS])]
 rw [insP_split]
 ·congr 1
  ·refine lowS_congr (fun k hk=>⟨?_,fun _=>?_⟩)
   ·have : ¬ k = q:=by omega
    simp [addS,this]
   ·unfold putS;rw [if_neg (by omega)]
  ·congr 1
   ·unfold putS;rw [if_pos rfl]
   ·refine highS_congr (fun k hk=>⟨?_,fun _=>?_⟩)
    ·have : ¬ k = q:=by omega
     simp [addS,this]
    ·unfold putS;rw [if_neg (by omega)]
 ·intro e he
  unfold lowS at he
  obtain ⟨k,hk,rfl⟩:=List.mem_map.mp he
  rw [List.mem_filter,List.mem_range] at hk
  rw [hg,hx];omega
 ·intro e he
  unfold highS at he
  obtain ⟨k,hk,rfl⟩:=List.mem_map.mp he
  rw [List.mem_filter,List.mem_range'_1] at hk
  rw [hg,hx];omega
theorem slots_put (hq : q < N) (hP : P q = true) (x : Strm) : lowS q P g ++ x :: highS N q P g = slots N P (putS g q x):=by
 rw [slots_at hq hP]
 congr 1
 ·refine lowS_congr (fun k hk=>⟨rfl,fun _=>?_⟩)
  unfold putS;rw [if_neg (by omega)]
 ·congr 1
  ·unfold putS;rw [if_pos rfl]
  ·refine highS_congr (fun k hk=>⟨rfl,fun _=>?_⟩)
   unfold putS;rw [if_neg (by omega)]
theorem slots_congr {P' : Nat → Bool} {g' : Nat → Strm} (h : ∀ k,k < N → P k = P' k ∧ (P k = true → g k = g' k)) : slots N P g = slots N P' g':=lowS_congr (q:=N) h
theorem slots_find {f : Strm → Bool} (hq : q < N) (hP : P q = true) (hf : f (g q) = true) (hlt : ∀ k,k < q → P k = true → f (g k) = false) : (slots N P g).find? f = some (g q):=by
 rw [slots_at hq hP,List.find?_append]
 have : (lowS q P g).find? f = none:=by
  rw [List.find?_eq_none]
  intro e he
  unfold lowS at he
  obtain ⟨k,hk,rfl⟩:=List.mem_map.mp he
  rw [List.mem_filter,List.mem_range] at hk
  rw [hlt k hk.1 hk.2];simp
 rw [this]
 simp [hf]
theorem slots_find_no {f : Strm → Bool} (h : ∀ k,k < N → P k = true → f (g k) = false) : (slots N P g).find? f = none:=by
 rw [List.find?_eq_none]
 intro e he
 obtain ⟨k,h1,h2,rfl⟩:=slots_mem he
 rw [h k h1 h2];simp
end
def nSl (P : Nat → Bool) : Nat → Nat
 | 0=>0
 | t + 1=>nSl P t + (if P t then 1 else 0)
theorem nSl_mono (P : Nat → Bool) {s t : Nat} (h : s ≤ t) : nSl P s ≤ nSl P t:=by
 induction t with
 | zero=>(have : s = 0:=by omega);subst this;exact Nat.le_refl _
 | succ t ih=>
  by_cases e : s = t + 1
  ·rw [e];exact Nat.le_refl _
  ·have:=ih (by omega)
   show _ ≤ nSl P t + _
   omega
theorem nSl_next (P : Nat → Bool) (N : Nat) : ∀ d t,N = t + d → nSl P t < nSl P N → ∃ q,t ≤ q ∧ q < N ∧ P q = true ∧ (∀ k,t ≤ k → k < q → P k = false) ∧ nSl P (q + 1) = nSl P t + 1
 | 0,t,h,hc=>by rw [h] at hc;exact absurd hc (Nat.lt_irrefl _)
 | d + 1,t,h,hc=>by
  by_cases e : P t = true
  ·refine ⟨t,Nat.le_refl _,by omega,e,fun k h1 h2=>by omega,?_⟩
   show nSl P t + (if P t then 1 else 0) = _
   rw [if_pos e]
  ·have e2 : P t = false:=by simpa using e
   have e3 : nSl P (t + 1) = nSl P t:=by
    show nSl P t + (if P t then 1 else 0) = _
    rw [e2];rfl
   obtain ⟨q,h1,h2,h3,h4,h5⟩:=nSl_next P N d (t + 1) (by omega) (by omega)
   refine ⟨q,by omega,h2,h3,fun k h6 h7=>?_,by omega⟩
   by_cases e4 : k = t
   ·rw [e4];exact e2
   ·exact h4 k (by omega) h7
theorem nSl_none (P : Nat → Bool) (N : Nat) : ∀ d t,N = t + d → nSl P t = nSl P N → ∀ k,t ≤ k → k < N → P k = false
 | 0,t,h,_,k,h1,h2=>by omega
 | d + 1,t,h,hc,k,h1,h2=>by
  have hm:=nSl_mono P (show t + 1 ≤ N by omega)
  have e3 : nSl P (t + 1) = nSl P t + (if P t then 1 else 0):=rfl
  by_cases e : P t = true
  ·rw [if_pos e] at e3;omega
  ·have e2 : P t = false:=by simpa using e
   rw [e2] at e3
   by_cases e4 : k = t
   ·rw [e4];exact e2
   ·exact nSl_none P N d (t + 1) (by omega) (by simpa [hc] using e3) k (by omega) h2
end
end Go.Proofs.YthckbmcmdcemkaaGreatDoor.stm
