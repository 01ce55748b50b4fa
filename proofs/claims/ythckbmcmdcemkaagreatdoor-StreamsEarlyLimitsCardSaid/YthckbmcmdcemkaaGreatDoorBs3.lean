/- Texts of this claim, one behind the other: FLi FLj FLk FK FKb FM FN. -/
import Derived.Test.YthckbmcmdcemkaaGreatDoorBs2
import Derived.Lib.Builder
import Derived.Lib.AppendStr
set_option maxRecDepth 100000
set_option maxHeartbeats 16000000
set_option linter.unusedSimpArgs false
set_option linter.unusedVariables false
namespace Go.Proofs.YthckbmcmdcemkaaGreatDoor.frm
section
open Go.RowKit Go.Maps
def i64B (m : Int) : Obj:=.cells #[.int .i64 m] 3
def fnB (T k : Nat) : Obj:=.cells #[fnv k] T
def Keep (w w' : World) : Prop:=∀ (b : Nat) (cs : Array Value) (T : TypeId),w.heap[b]? = some (.cells cs T (0,0)) → w'.heap[b]? = some (.cells cs T (0,0))
theorem keep_refl (w : World) : Keep w w:=fun _ _ _ h=>h
theorem keep_below {w w' : World} (h : Below w.heap.size w w') : Keep w w':=fun _ _ _ hb=>heap_below h hb
theorem keep_map {w w' : World} {M k n : Nat} {D : DataW Value} (hm : MapAt w k M n D) (h : w.grownBy w' (some M)) : Keep w w':=fun b cs T hb=>
 heap_grown h hb (fun e=>by have:=hm.no_cells (e ▸ hb);simp [isC] at this)
def Pt (bx : Nat → Array Value) (s : Sp) (cs : Array Value) (w : World) : Prop:=
 match s with
 | .ld p=>cs = bx p
 | .cl f args=>(f = 165 ∧ ∃ l m n,args = [l,m] ∧ cs = txtP n ∧ w.heap[n]? = some (i64B l) ∧ w.heap[n + 1]? = some (i64B m)) ∨ (f = 172 ∧ cs = uniP) ∨
   (f = 173 ∧ ∃ n,cs = retP n ∧ w.heap[n]? = some (i64B 4611686018427387903) ∧ w.heap[n + 1]? = some (fnB 245 241))
 | _=>False
def Pts (bx : Nat → Array Value) : List Nat → Array Value → World → Prop
 | [],cs,_=>cs = #[]
 | x :: xs,cs,w=>∃ c1 c2 s,cs = c1 ++ c2 ∧ c1.size = 3 ∧ rows[ix x]? = some (some x,s) ∧ Pt bx s c1 w ∧ Pts bx xs c2 w
def Rs (bx : Nat → Array Value) (s : Sp) (v : Value) (w : World) : Prop:=
 match s with
 | .ld _=>∃ cs,v = .agg cs ∧ cs.size = 3 ∧ Pt bx s cs w
 | .cl _ _=>∃ cs,v = .agg cs ∧ cs.size = 3 ∧ Pt bx s cs w
 | .sl xs=>∃ b cs,v = .slice (some ⟨b,0,none⟩) xs.length xs.length ∧ w.heap[b]? = some (.cells cs 241 (0,0)) ∧ Pts bx xs cs w
 | _=>True
theorem Pt.keep {bx : Nat → Array Value} {s : Sp} {cs : Array Value} {w w' : World} (h : Pt bx s cs w) (k : Keep w w') : Pt bx s cs w':=by
 cases s <;> try exact h
 rcases h with ⟨e,l,m,n,h1,h2,h3,h4⟩ | h | ⟨e,n,h2,h3,h4⟩
 ·exact .inl ⟨e,l,m,n,h1,h2,k _ _ _ h3,k _ _ _ h4⟩
 ·exact .inr (.inl h)
 ·exact .inr (.inr ⟨e,n,h2,k _ _ _ h3,k _ _ _ h4⟩)
theorem Pts.keep {bx : Nat → Array Value} {w w' : World} (k : Keep w w') : ∀ {xs : List Nat} {cs : Array Value},Pts bx xs cs w → Pts bx xs cs w'
 | [],_,h=>h
 | _ :: _,_,⟨c1,c2,s,h1,h2,h3,h4,h5⟩=>⟨c1,c2,s,h1,h2,h3,h4.keep k,Pts.keep k h5⟩
theorem Rs.keep {bx : Nat → Array Value} {s : Sp} {v : Value} {w w' : World} (h : Rs bx s v w) (k : Keep w w') : Rs bx s v w':=by
 cases s
 case ld p=>obtain ⟨cs,h1,h2,h3⟩:=h;exact ⟨cs,h1,h2,h3.keep k⟩
 case cl f a=>obtain ⟨cs,h1,h2,h3⟩:=h;exact ⟨cs,h1,h2,h3.keep k⟩
 case sl xs=>obtain ⟨b,cs,h1,h2,h3⟩:=h;exact ⟨b,cs,h1,k _ _ _ h2,h3.keep k⟩
 all_goals exact h
def cnt (L : Nat → Bool) : Nat:=(List.range 78).countP L
theorem cnt_add {L : Nat → Bool} {i : Nat} (hi : i < 78) (hL : L i = false) : cnt L + 1 ≤ cnt fun j=>j == i || L j:=
 countP_lt (i:=i) (List.mem_range.2 hi) (fun j hj=>by simp [hj]) (by simp) hL
theorem cnt_le (L : Nat → Bool) : cnt L ≤ 78:=by
 refine Nat.le_trans List.countP_le_length ?_
 simp
def Mp (w0 : World) (bx : Nat → Array Value) (L : Nat → Bool) (v : Value) (w : World) : Prop:=
 ∃ M n D,v = .map (some M) ∧ MapAt w 3 M n D ∧ IsMap D ∧ n ≤ cnt L ∧ w0.heap.size ≤ M ∧
  ∀ i k t,rows[i]? = some (none,.ins k t) → L i = true → ∃ u s,D.atKey (.int .i64 k) (.held undef) = .held u ∧ rows[ix t]? = some (some t,s) ∧ Rs bx s u w
structure Inv (w0 : World) (os : List (Nat × Obj)) (ad : Nat → Nat) (bx : Nat → Array Value) (L : Nat → Bool) (a : Act) (w : World) : Prop where
 os : Os w0 os w
 size : a.tmps.size = 81
 nod : a.defers = []
 low : ∀ p,1 ≤ p → p ≤ 12 → a.tmps.getD p undef = .pointer (some ⟨ad p,0,none⟩)
 res : ∀ i d s,rows[i]? = some (some d,s) → L i = true → Rs bx s (a.tmps.getD d undef) w
 mp : L (ix 25) = true → Mp w0 bx L (a.tmps.getD 25 undef) w
 mv : L (ix 80) = true → a.tmps.getD 80 undef = a.tmps.getD 25 undef ∧ L (ix 25) = true
 dep : ∀ j k t,rows[j]? = some (none,.ins k t) → L j = true → L (ix 25) = true
 asg : L (ix 0) = true → a.tmps.getD 0 undef = a.tmps.getD 80 undef ∧ L (ix 80) = true
variable {w0 : World} {os : List (Nat × Obj)} {ad : Nat → Nat} {bx : Nat → Array Value} {L : Nat → Bool} {a : Act} {w w' : World}
theorem Mp.step {v : Value} {i : Nat} (h : Mp w0 bx L v w) (k : Keep w w') (hm : ∀ M n D,MapAt w 3 M n D → MapAt w' 3 M n D) (hi : i < 78) (hL : L i = false) (hn : ∀ k t,rows[i]? ≠ some (none,.ins k t)) :
  Mp w0 bx (fun j=>j == i || L j) v w':=by
 obtain ⟨M,n,D,h1,h2,h3,h4,h5,h6⟩:=h
 refine ⟨M,n,D,h1,hm _ _ _ h2,h3,by have:=cnt_add hi hL;omega,h5,fun j q t hr hj=>?_⟩
 rcases Bool.or_eq_true .. ▸ hj with e | hj
 ·rw [beq_iff_eq] at e;subst e;exact absurd hr (hn _ _)
 ·obtain ⟨u,s,e1,e2,e3⟩:=h6 j q t hr hj
  exact ⟨u,s,e1,e2,e3.keep k⟩
theorem getD_set {t : Array Value} {d e : Nat} {v : Value} (hd : d < t.size) : (t.setIfInBounds d v).getD e undef = if e = d then v else t.getD e undef:=by
 by_cases h : e = d
 ·subst h;simp [Array.getD,hd]
 ·by_cases he : e < t.size
  ·simp [Array.getD,he,Ne.symm h,h]
  ·simp [Array.getD,he,h]
theorem slots_high : (rows.all fun r=>match r.1 with | some d=>decide (d < 81) && (decide (25 ≤ d) || d == 0) | none=>true) = true:=by decide +kernel
theorem ix_low : (ix 25 == 0 && ix 80 == 76 && ix 0 == 77) = true:=by decide +kernel
theorem Inv.put (h : Inv w0 os ad bx L a w) {i d : Nat} {s : Sp} {v : Value} (hr : rows[i]? = some (some d,s)) (hL : L i = false) (k : Keep w w') (ho : Os w0 os w')
  (hm : ∀ M n D,MapAt w 3 M n D → MapAt w' 3 M n D) (hv : Rs bx s v w') (h25 : d = 25 → Mp w0 bx (fun j=>j == i || L j) v w')
  (h80 : d = 80 → v = a.tmps.getD 25 undef ∧ L (ix 25) = true) (h0 : d = 0 → v = a.tmps.getD 80 undef ∧ L (ix 80) = true) :
  Inv w0 os ad bx (fun j=>j == i || L j) (a.put (some d) v) w':=by
 have hi : i < 78:=rows_len ▸ (List.getElem?_eq_some_iff.1 hr).1
 have hh:=List.all_eq_true.1 slots_high _ (List.mem_of_getElem? hr)
 simp only [Bool.and_eq_true,Bool.or_eq_true,decide_eq_true_eq,beq_iff_eq] at hh
 have hd : d < a.tmps.size:=by rw [h.size];exact hh.1
 have hx:=ix_of hr
 have e : ∀ t,(a.put (some d) v).tmps.getD t undef = if t = d then v else a.tmps.getD t undef:=fun t=>getD_set hd
 have hne : ∀ t,L (ix t) = true → t ≠ d:=fun t ht e=>by rw [e,hx,hL] at ht;cases ht
 have hor : ∀ t,((fun j=>j == i || L j) (ix t)) = true → ix t = i ∨ L (ix t) = true:=fun t ht=>by
  rcases Bool.or_eq_true .. ▸ ht with e | e
  ·exact .inl (by simpa using e)
  ·exact .inr e
 have hx1:=ix_low
 simp only [Bool.and_eq_true,beq_iff_eq] at hx1
 have hrow : ∀ t,(t = 25 ∨ t = 80 ∨ t = 0) → ix t = i → t = d:=fun t ht e=>by
  rcases ht with rfl | rfl | rfl
  ·have : rows[ix 25]? = some (some 25,.mk):=by rw [hx1.1.1];rfl
   rw [e,hr] at this;cases this;rfl
  ·have : rows[ix 80]? = some (some 80,.mv 25):=by rw [hx1.1.2];rfl
   rw [e,hr] at this;cases this;rfl
  ·have : rows[ix 0]? = some (some 0,.asg 80):=by rw [hx1.2];rfl
   rw [e,hr] at this;cases this;rfl
 have hup : ∀ t,L (ix t) = true → ((fun j=>j == i || L j) (ix t)) = true:=fun t ht=>by simp [ht]
 refine ⟨ho,by simpa [Act.put] using h.size,h.nod,fun p h1 h2=>?_,fun j d' s' hj hl=>?_,fun hl=>?_,fun hl=>?_,fun j q t hj hl=>?_,fun hl=>?_⟩
 ·rw [e,if_neg (by omega)];exact h.low p h1 h2
 ·rw [e]
  rcases Bool.or_eq_true .. ▸ hl with e1 | e1
  ·rw [beq_iff_eq] at e1;subst e1;rw [hr] at hj;cases hj
   rw [if_pos rfl];exact hv
  ·rw [if_neg (fun e2=>by rw [← ix_of hj,e2,hx,hL] at e1;cases e1)];exact (h.res j d' s' hj e1).keep k
 ·rcases hor 25 hl with e1 | e1
  ·have:=hrow 25 (.inl rfl) e1
   rw [e,if_pos this];exact h25 this.symm
  ·rw [e,if_neg (hne 25 e1)]
   exact (h.mp e1).step k hm hi hL (fun q t hq=>by rw [hr] at hq;cases hq)
 ·rcases hor 80 hl with e1 | e1
  ·have:=hrow 80 (.inr (.inl rfl)) e1
   obtain ⟨e2,e3⟩:=h80 this.symm
   rw [e,if_pos this,e,if_neg (hne 25 e3)];exact ⟨e2,hup _ e3⟩
  ·obtain ⟨e2,e3⟩:=h.mv e1
   rw [e,if_neg (hne 80 e1),e,if_neg (hne 25 e3)];exact ⟨e2,hup _ e3⟩
 ·rcases Bool.or_eq_true .. ▸ hl with e1 | e1
  ·rw [beq_iff_eq] at e1;subst e1;rw [hr] at hj;cases hj
  ·exact hup _ (h.dep j q t hj e1)
 ·rcases hor 0 hl with e1 | e1
  ·have:=hrow 0 (.inr (.inr rfl)) e1
   obtain ⟨e2,e3⟩:=h0 this.symm
   rw [e,if_pos this,e,if_neg (hne 80 e3)];exact ⟨e2,hup _ e3⟩
  ·obtain ⟨e2,e3⟩:=h.asg e1
   rw [e,if_neg (hne 0 e1),e,if_neg (hne 80 e3)];exact ⟨e2,hup _ e3⟩
end
section
open Go.RowKit Go.Maps
def isPart (x : Nat) : Option (Option Nat × Sp) → Bool
 | some (some y,.ld _)=>y == x
 | some (some y,.cl _ _)=>y == x
 | _=>false
def isSl (x : Nat) : Option (Option Nat × Sp) → Bool
 | some (some y,.sl _)=>y == x
 | _=>false
def midd (d : Nat) : Bool:=decide (26 ≤ d) && decide (d < 80)
def rowOk : Option Nat × Sp → Bool
 | (some d,.mk)=>d == 25
 | (some d,.ld p)=>decide (1 ≤ p) && decide (p ≤ 12) && midd d
 | (some d,.sl xs)=>decide (xs.length ≤ 3) && (xs.all fun x=>isPart x rows[ix x]?) && midd d
 | (none,.ins k t)=>decide (0 ≤ k) && decide (k < 100) && isSl t rows[ix t]?
 | (some d,.cl f args)=>(f == 165 && args.length == 2 && (args.all fun n=>decide (0 ≤ n) && decide (n < 2000)) || f == 172 && args.length == 0 || f == 173 && args.length == 0) && midd d
 | (some d,.mv t)=>d == 80 && t == 25
 | (some d,.asg t)=>d == 0 && t == 80
 | _=>false
theorem rows_ok : rows.all rowOk = true:=by decide +kernel
theorem rows_keys : ((List.range 78).all fun i=>match rows[i]? with
  | some (none,.ins k _)=>rows.findIdx (fun r=>match r.2 with | .ins q _=>q == k | _=>false) == i
  | _=>true) = true:=by decide +kernel
theorem row_ok {i : Nat} {d : Option Nat} {s : Sp} (h : rows[i]? = some (d,s)) : rowOk (d,s) = true:=List.all_eq_true.1 rows_ok _ (List.mem_of_getElem? h)
theorem key_one {i j : Nat} {k : Int} {t u : Nat} (h : rows[i]? = some (none,.ins k t)) (h' : rows[j]? = some (none,.ins k u)) : i = j:=by
 have hi : i < 78:=rows_len ▸ (List.getElem?_eq_some_iff.1 h).1
 have hj : j < 78:=rows_len ▸ (List.getElem?_eq_some_iff.1 h').1
 have a:=List.all_eq_true.1 rows_keys i (List.mem_range.2 hi)
 have b:=List.all_eq_true.1 rows_keys j (List.mem_range.2 hj)
 rw [h] at a
 rw [h'] at b
 simp only [beq_iff_eq] at a b
 omega
variable {ops : Array Oper} {Q : Exit → Act → World → Prop} {w0 : World} {os : List (Nat × Obj)} {ad : Nat → Nat} {bx : Nat → Array Value} {L : Nat → Bool} {a : Act} {w w' : World}
theorem op_go {i : Nat} {o : Oper} {K : Act → World → Prop} (ho : ops[i]? = some o) (hg : o.guard = none) (h : ∀ K' : Act → World → Prop,(∀ a w,K a w → K' a w) → Oper.wp Tryz.prog o a w K' Q) : wpOp Tryz.prog ops Q i K a w:=
 wpOp_step ho fun K' hK=>by rw [if_pos (by simp [Region.wanted,hg])];exact h K' hK
theorem midd_ne {d : Nat} (h : midd d = true) : d ≠ 25 ∧ d ≠ 80 ∧ d ≠ 0:=by
 simp only [midd,Bool.and_eq_true,decide_eq_true_eq] at h
 omega
theorem step_ld {i d p : Nat} {o : Oper} (ho : ops[i]? = some o) (hop : o.op = .load 241 (.tmp p)) (hd : o.dst = some d) (hg : o.guard = none) (hr : rows[i]? = some (some d,.ld p)) (hL : L i = false)
  (hb : ∀ p,1 ≤ p → p ≤ 12 → (ad p,Obj.cells (bx p) 241) ∈ os ∧ (bx p).size = 3) (h : Inv w0 os ad bx L a w) : wpOp Tryz.prog ops Q i (Inv w0 os ad bx (fun j=>j == i || L j)) a w:=by
 have hk:=row_ok hr
 simp only [rowOk,Bool.and_eq_true,decide_eq_true_eq] at hk
 obtain ⟨⟨h1,h2⟩,h3⟩:=hk
 obtain ⟨n1,n2,n3⟩:=midd_ne h3
 obtain ⟨m1,m2⟩:=hb p h1 h2
 have:=h.low p h1 h2
 refine op_go ho hg fun K' hK=>?_
 refine wp_load_row 241 (.tmp p) hop (ad p) (by simpa [Act.eval] using this) 241 (bx p) (0,0) _ (h.os.at m1) Tryz.underlying241 rfl (by rw [m2];exact size241) (hK _ _ ?_)
 rw [hd]
 exact h.put hr hL (keep_refl _) h.os (fun _ _ _ h=>h) ⟨_,rfl,m2,rfl⟩ (fun e=>absurd e n1) (fun e=>absurd e n2) (fun e=>absurd e n3)
theorem step_mk {i d : Nat} {o : Oper} (ho : ops[i]? = some o) (hop : o.op = .makeMap 178 none) (hd : o.dst = some d) (hg : o.guard = none) (hr : rows[i]? = some (some d,.mk)) (hL : L i = false)
  (h : Inv w0 os ad bx L a w) : wpOp Tryz.prog ops Q i (Inv w0 os ad bx (fun j=>j == i || L j)) a w:=by
 have hk:=row_ok hr
 simp only [rowOk,beq_iff_eq] at hk
 subst hk
 refine op_go ho hg fun K' hK=>?_
 have hb : Below w.heap.size w (w.alloc (.map #[] 0)):=bz0.alloc (Nat.le_refl _) _
 have:=hK _ _ (h.put (v:=.map (some w.heap.size)) (w':=w.alloc (.map #[] 0)) hr hL (keep_below hb) (h.os.below hb) (fun _ _ _ h=>h.alloc _) trivial
  (fun _=>⟨_,_,_,rfl,MapAt.made _ _,isMap_empty,Nat.zero_le _,h.os.bel.size,fun j k t hj hl=>by
   rcases Bool.or_eq_true .. ▸ hl with e | e
   ·rw [beq_iff_eq] at e;subst e;rw [hr] at hj;cases hj
   ·have e1:=h.dep j k t hj e
    rw [ix_of hr,hL] at e1;cases e1⟩) (fun e=>by cases e) (fun e=>by cases e))
 rw [← hd] at this
 unfold Oper.wp
 simp [execOp,hop,Result.andThen,Instr.makeMap,go_sem,Oper.upon]
 exact this
theorem step_mv {i d t : Nat} {o : Oper} (ho : ops[i]? = some o) (hop : o.op = .move (.tmp t)) (hd : o.dst = some d) (hg : o.guard = none) (hr : rows[i]? = some (some d,.mv t)) (hL : L i = false)
  (hn : L (ix t) = true) (h : Inv w0 os ad bx L a w) : wpOp Tryz.prog ops Q i (Inv w0 os ad bx (fun j=>j == i || L j)) a w:=by
 have hk:=row_ok hr
 simp only [rowOk,Bool.and_eq_true,beq_iff_eq] at hk
 obtain ⟨rfl,rfl⟩:=hk
 refine op_go ho hg fun K' hK=>?_
 have:=hK _ _ (h.put (v:=a.tmps.getD 25 undef) (w':=w) hr hL (keep_refl _) h.os (fun _ _ _ h=>h) trivial (fun e=>by cases e) (fun _=>⟨rfl,hn⟩) (fun e=>by cases e))
 rw [← hd] at this
 unfold Oper.wp
 simp [execOp,hop,go_sem,Oper.upon,Act.eval] at this ⊢
 exact this
theorem step_asg {i d t : Nat} {o : Oper} (ho : ops[i]? = some o) (hop : o.op = .assign (.tmp t)) (hd : o.dst = some d) (hg : o.guard = none) (hr : rows[i]? = some (some d,.asg t)) (hL : L i = false)
  (hn : L (ix t) = true) (h : Inv w0 os ad bx L a w) : wpOp Tryz.prog ops Q i (Inv w0 os ad bx (fun j=>j == i || L j)) a w:=by
 have hk:=row_ok hr
 simp only [rowOk,Bool.and_eq_true,beq_iff_eq] at hk
 obtain ⟨rfl,rfl⟩:=hk
 refine op_go ho hg fun K' hK=>?_
 have:=hK _ _ (h.put (v:=a.tmps.getD 80 undef) (w':=w) hr hL (keep_refl _) h.os (fun _ _ _ h=>h) trivial (fun e=>by cases e) (fun e=>by cases e) (fun _=>⟨rfl,hn⟩))
 rw [← hd] at this
 unfold Oper.wp
 simp [execOp,hop,go_sem,Oper.upon,Act.eval] at this ⊢
 exact this
theorem isSl_of {x : Nat} (h : isSl x rows[ix x]? = true) : ∃ xs,rows[ix x]? = some (some x,.sl xs):=by
 unfold isSl at h
 split at h
 ·rename_i y xs e
  rw [beq_iff_eq] at h;subst h
  exact ⟨xs,e⟩
 ·cases h
theorem isPart_of {x : Nat} (h : isPart x rows[ix x]? = true) : ∃ s,rows[ix x]? = some (some x,s) ∧ ((∃ p,s = .ld p) ∨ ∃ f l,s = .cl f l):=by
 unfold isPart at h
 split at h
 ·rename_i y p e
  rw [beq_iff_eq] at h;subst h
  exact ⟨_,e,.inl ⟨p,rfl⟩⟩
 ·rename_i y f l e
  rw [beq_iff_eq] at h;subst h
  exact ⟨_,e,.inr ⟨f,l,rfl⟩⟩
 ·cases h
theorem step_ins {i t : Nat} {k : Int} {o : Oper} (ho : ops[i]? = some o) (hop : o.op = .insert 178 (.tmp 25) (.const (.int .i64 k)) (.tmp t)) (hd : o.dst = none) (hg : o.guard = none) (hr : rows[i]? = some (none,.ins k t)) (hL : L i = false)
  (hn : L (ix 25) = true) (ht : L (ix t) = true) (h : Inv w0 os ad bx L a w) : wpOp Tryz.prog ops Q i (Inv w0 os ad bx (fun j=>j == i || L j)) a w:=by
 have hk:=row_ok hr
 simp only [rowOk,Bool.and_eq_true,decide_eq_true_eq] at hk
 obtain ⟨⟨k1,k2⟩,k3⟩:=hk
 obtain ⟨xs,hx⟩:=isSl_of k3
 have hi : i < 78:=rows_len ▸ (List.getElem?_eq_some_iff.1 hr).1
 obtain ⟨M,n,D,e1,hm,hD,hc,hM,hall⟩:=h.mp hn
 have hR:=h.res _ _ _ hx ht
 have hl:=cnt_le L
 have hkey : keyOf Tryz.prog 3 (.int .i64 k) = some (.int .i64 k):=Maps.keyOf_int_mk Tryz.underlying3 (by
  have u1 : IntKind.i64.min = -9223372036854775808:=rfl
  have u2 : IntKind.i64.max = 9223372036854775807:=rfl
  simp [Lit.wf];omega)
 have hlt : n < maxLen:=Nat.lt_of_le_of_lt (Nat.le_trans hc hl) (by decide)
 obtain ⟨w',hrun,r1,r2⟩:=hm.put (Maps.int_keyed Tryz.underlying3) Tryz.underlying178 hlt (a.tmps.getD t undef) hkey
 have hK':=keep_map hm r2
 refine op_go ho hg fun K' hK=>?_
 have hI : Inv w0 os ad bx (fun j=>j == i || L j) a w':=by
  have hor : ∀ t d s,rows[ix t]? = some (some d,s) → ((fun j=>j == i || L j) (ix t)) = true → L (ix t) = true:=fun t d s hs hl=>by
   rcases Bool.or_eq_true .. ▸ hl with e | e
   ·rw [beq_iff_eq] at e;rw [e,hr] at hs;cases hs
   ·exact e
  have hup : ∀ t,L (ix t) = true → ((fun j=>j == i || L j) (ix t)) = true:=fun t ht=>by simp [ht]
  have hi1:=ix_low
  simp only [Bool.and_eq_true,beq_iff_eq] at hi1
  refine ⟨h.os.insert hm hM r2,h.size,h.nod,h.low,fun j d s hj hl=>?_,fun _=>⟨M,n + 1,_,e1,r1,hD.put _ _,by have:=cnt_add hi hL;omega,hM,fun j q u hj hl=>?_⟩,fun hl=>?_,fun j q u hj hl=>hup _ hn,fun hl=>?_⟩
  ·rcases Bool.or_eq_true .. ▸ hl with e | e
   ·rw [beq_iff_eq] at e;subst e;rw [hr] at hj;cases hj
   ·exact (h.res j d s hj e).keep hK'
  ·by_cases hq : q = k
   ·subst hq
    have hij:=key_one hr hj
    subst hij
    rw [hr] at hj;cases hj
    exact ⟨_,_,atKey_put_same hD (k:=.int .i64 q) (show WideAt.IsKeyLit (.int .i64 q) from trivial) _ _,hx,hR.keep hK'⟩
   ·rcases Bool.or_eq_true .. ▸ hl with e | e
    ·rw [beq_iff_eq] at e;subst e;rw [hr] at hj;cases hj;exact absurd rfl hq
    ·obtain ⟨v,s,a1,a2,a3⟩:=hall j q u hj e
     exact ⟨v,s,by rw [atKey_put_other (by intro e;cases e;exact hq rfl)];exact a1,a2,a3.keep hK'⟩
  ·obtain ⟨a1,a2⟩:=h.mv (hor 80 80 (.mv 25) (by rw [hi1.1.2];rfl) hl)
   exact ⟨a1,hup _ a2⟩
  ·obtain ⟨a1,a2⟩:=h.asg (hor 0 0 (.asg 80) (by rw [hi1.2];rfl) hl)
   exact ⟨a1,hup _ a2⟩
 rw [show a = a.put o.dst undef from by rw [hd];rfl] at hI
 have:=hK _ _ hI
 unfold Oper.wp
 have e2 : a.eval (.tmp 25) = .map (some M):=by simpa [Act.eval] using e1
 have e3 : a.eval (.tmp t) = a.tmps.getD t undef:=by simp [Act.eval]
 have e4 : a.eval (.const (.int .i64 k)) = .int .i64 k:=rfl
 generalize a.tmps.getD t undef = tv at *
 simp [execOp,hop,e2,e3,e4,hrun,Result.andThen,Oper.upon]
 exact this
end
section
open Go.RowKit Go.Maps
variable {ops : Array Oper} {Q : Exit → Act → World → Prop} {w0 : World} {os : List (Nat × Obj)} {ad : Nat → Nat} {bx : Nat → Array Value} {L : Nat → Bool} {a : Act} {w w' : World}
theorem bs0 (w : World) : (Instr.buildSlice 176 0 #[]).run Tryz.prog w = .ok (.slice (some ⟨w.heap.size,0,none⟩) 0 0) (w.alloc (.cells #[] 241)):=by
 simp [Instr.buildSlice,go_sem]
theorem bs1 (w : World) (a b c : Value) : (Instr.buildSlice 176 1 #[(0,.agg #[a,b,c])]).run Tryz.prog w = .ok (.slice (some ⟨w.heap.size,0,none⟩) 1 1) (w.alloc (.cells #[a,b,c] 241)):=by
 simp [Instr.buildSlice,go_sem]
theorem bs2 (w : World) (a b c d e f : Value) : (Instr.buildSlice 176 2 #[(0,.agg #[a,b,c]),(1,.agg #[d,e,f])]).run Tryz.prog w = .ok (.slice (some ⟨w.heap.size,0,none⟩) 2 2) (w.alloc (.cells #[a,b,c,d,e,f] 241)):=by
 simp [Instr.buildSlice,go_sem]
theorem bs3 (w : World) (a b c d e f g h i : Value) : (Instr.buildSlice 176 3 #[(0,.agg #[a,b,c]),(1,.agg #[d,e,f]),(2,.agg #[g,h,i])]).run Tryz.prog w = .ok (.slice (some ⟨w.heap.size,0,none⟩) 3 3) (w.alloc (.cells #[a,b,c,d,e,f,g,h,i] 241)):=by
 simp [Instr.buildSlice,go_sem]
theorem three {cs : Array Value} (h : cs.size = 3) : ∃ a b c,cs = #[a,b,c]:=by
 obtain ⟨l⟩:=cs
 match l,h with
 | [a,b,c],_=>exact ⟨a,b,c,rfl⟩
theorem part_at {x : Nat} (h : Inv w0 os ad bx L a w) (hp : isPart x rows[ix x]? = true) (hl : L (ix x) = true) : ∃ p q r s,a.eval (.tmp x) = .agg #[p,q,r] ∧ rows[ix x]? = some (some x,s) ∧ Pt bx s #[p,q,r] w:=by
 obtain ⟨s,hs,hk⟩:=isPart_of hp
 have hR:=h.res _ _ _ hs hl
 have he : a.eval (.tmp x) = a.tmps.getD x undef:=by simp [Act.eval]
 rcases hk with ⟨p,rfl⟩ | ⟨f,l,rfl⟩ <;>
 ·obtain ⟨cs,h1,h2,h3⟩:=hR
  obtain ⟨p,q,r,rfl⟩:=three h2
  exact ⟨p,q,r,_,he.trans h1,hs,h3⟩
theorem step_sl {i d : Nat} {xs : List Nat} {o : Oper} (ho : ops[i]? = some o) (hop : o.op = (Sp.sl xs).op) (hd : o.dst = some d) (hg : o.guard = none) (hr : rows[i]? = some (some d,.sl xs)) (hL : L i = false)
  (hn : ∀ x ∈ xs,L (ix x) = true) (h : Inv w0 os ad bx L a w) : wpOp Tryz.prog ops Q i (Inv w0 os ad bx (fun j=>j == i || L j)) a w:=by
 have hk:=row_ok hr
 simp only [rowOk,Bool.and_eq_true,decide_eq_true_eq,List.all_eq_true] at hk
 obtain ⟨⟨h1,h2⟩,h3⟩:=hk
 obtain ⟨n1,n2,n3⟩:=midd_ne h3
 have key : ∀ cs,Pts bx xs cs w → (∀ K' : Act → World → Prop,K' (a.put o.dst (.slice (some ⟨w.heap.size,0,none⟩) xs.length xs.length)) (w.alloc (.cells cs 241)) → Oper.wp Tryz.prog o a w K' Q) →
   wpOp Tryz.prog ops Q i (Inv w0 os ad bx (fun j=>j == i || L j)) a w:=fun cs hc hrun=>by
  refine op_go ho hg fun K' hK=>hrun K' (hK _ _ ?_)
  rw [hd]
  have hb : Below w.heap.size w (w.alloc (.cells cs 241)):=bz0.alloc (Nat.le_refl _) _
  exact h.put hr hL (keep_below hb) (h.os.below hb) (fun _ _ _ h=>h.alloc _) ⟨_,cs,rfl,heap_alloc_new w _,hc.keep (keep_below hb)⟩ (fun e=>absurd e n1) (fun e=>absurd e n2) (fun e=>absurd e n3)
 have pt : ∀ x ∈ xs,_:=fun x hx=>part_at h (h2 x hx) (hn x hx)
 match xs,h1 with
 | [],_=>
  refine key #[] rfl fun K' hK'=>?_
  unfold Oper.wp
  simp [execOp,hop,Sp.op,bs0,Result.andThen,Oper.upon]
  exact hK'
 | [x],_=>
  obtain ⟨a1,b1,c1,s1,e1,r1,p1⟩:=pt x (by simp)
  refine key #[a1,b1,c1] ⟨_,#[],s1,rfl,rfl,r1,p1,rfl⟩ fun K' hK'=>?_
  unfold Oper.wp
  simp [execOp,hop,Sp.op,e1,bs1,Result.andThen,Oper.upon]
  exact hK'
 | [x,y],_=>
  obtain ⟨a1,b1,c1,s1,e1,r1,p1⟩:=pt x (by simp)
  obtain ⟨a2,b2,c2,s2,e2,r2,p2⟩:=pt y (by simp)
  refine key #[a1,b1,c1,a2,b2,c2] ⟨_,_,s1,rfl,rfl,r1,p1,_,#[],s2,rfl,rfl,r2,p2,rfl⟩ fun K' hK'=>?_
  unfold Oper.wp
  simp [execOp,hop,Sp.op,e1,e2,bs2,Result.andThen,Oper.upon]
  exact hK'
 | [x,y,z],_=>
  obtain ⟨a1,b1,c1,s1,e1,r1,p1⟩:=pt x (by simp)
  obtain ⟨a2,b2,c2,s2,e2,r2,p2⟩:=pt y (by simp)
  obtain ⟨a3,b3,c3,s3,e3,r3,p3⟩:=pt z (by simp)
  refine key #[a1,b1,c1,a2,b2,c2,a3,b3,c3] ⟨_,_,s1,rfl,rfl,r1,p1,_,_,s2,rfl,rfl,r2,p2,_,#[],s3,rfl,rfl,r3,p3,rfl⟩ fun K' hK'=>?_
  unfold Oper.wp
  simp [execOp,hop,Sp.op,e1,e2,e3,bs3,Result.andThen,Oper.upon]
  exact hK'
theorem step_cl {i d f : Nat} {args : List Int} {o : Oper} (ho : ops[i]? = some o) (hop : o.op = (Sp.cl f args).op) (hd : o.dst = some d) (hg : o.guard = none) (hr : rows[i]? = some (some d,.cl f args)) (hL : L i = false)
  (h : Inv w0 os ad bx L a w) : wpOp Tryz.prog ops Q i (Inv w0 os ad bx (fun j=>j == i || L j)) a w:=by
 have hk:=row_ok hr
 simp only [rowOk,Bool.and_eq_true,Bool.or_eq_true,decide_eq_true_eq,List.all_eq_true,beq_iff_eq] at hk
 obtain ⟨h1,h3⟩:=hk
 obtain ⟨n1,n2,n3⟩:=midd_ne h3
 have key : ∀ (K' : Act → World → Prop),(∀ a w,Inv w0 os ad bx (fun j=>j == i || L j) a w → K' a w) → ∀ cs w',Below w.heap.size w w' → cs.size = 3 → Pt bx (.cl f args) cs w' → K' (a.put o.dst (.agg cs)) w':=fun K' hK cs w' hb hz hp=>by
  rw [hd]
  exact hK _ _ (h.put hr hL (keep_below hb) (h.os.below hb) (fun _ _ _ h=>h.below hb) ⟨cs,rfl,hz,hp⟩ (fun e=>absurd e n1) (fun e=>absurd e n2) (fun e=>absurd e n3))
 refine op_go ho hg fun K' hK=>?_
 rcases h1 with (⟨⟨rfl,h2⟩,h4⟩ | ⟨rfl,h2⟩) | ⟨rfl,h2⟩
 ·obtain ⟨l,m,rfl⟩ : ∃ l m,args = [l,m]:=by
   match args,h2 with
   | [l,m],_=>exact ⟨l,m,rfl⟩
  unfold Oper.wp
  simp [execOp,hop,Sp.op,Oper.upon,resolve,invoke,go_sem]
  refine (txt_ex l m w).mono ?_
  rintro e w1 ⟨n,rfl,a0,a1,hb⟩
  exact key K' hK _ _ hb rfl (.inl ⟨rfl,l,m,n,rfl,rfl,a0,a1⟩)
 ·obtain rfl:=List.eq_nil_of_length_eq_zero h2
  unfold Oper.wp
  simp [execOp,hop,Sp.op,Oper.upon,resolve,invoke,go_sem]
  refine (uni_ex w).mono ?_
  rintro e w1 ⟨rfl,hb⟩
  exact key K' hK _ _ hb rfl (.inr (.inl ⟨rfl,rfl⟩))
 ·obtain rfl:=List.eq_nil_of_length_eq_zero h2
  unfold Oper.wp
  simp [execOp,hop,Sp.op,Oper.upon,resolve,invoke,go_sem]
  refine (ret_ex w).mono ?_
  rintro e w1 ⟨n,rfl,a0,a1,hb⟩
  exact key K' hK _ _ hb rfl (.inr (.inr ⟨rfl,n,rfl,a0,a1⟩))
theorem Tab.size (T : Tab ops) : ops.size = 78:=by
 have:=congrArg List.length T.form
 simpa [rows_len] using this
theorem lit_step (T : Tab ops) (hb : ∀ p,1 ≤ p → p ≤ 12 → (ad p,Obj.cells (bx p) 241) ∈ os ∧ (bx p).size = 3) {i : Nat} {o : Oper} (ho : ops[i]? = some o) (hL : L i = false)
  (hw : ∀ e ∈ o.after,Region.binds .any e = true → L e.on = true) (h : Inv w0 os ad bx L a w) : wpOp Tryz.prog ops Q i (Inv w0 os ad bx (fun j=>j == i || L j)) a w:=by
 obtain ⟨s,hr,hop,hg⟩:=T.row ho
 have hn : ∀ t ∈ s.needs,L (ix t) = true:=fun t ht=>T.needs ho hr ht hw
 have hk:=row_ok hr
 cases hd : o.dst with
 | none=>
  rw [hd] at hr hk
  cases s <;> try cases hk
  exact step_ins ho hop hd hg hr hL (hn 25 (by simp [Sp.needs])) (hn _ (by simp [Sp.needs])) h
 | some d=>
  rw [hd] at hr hk
  cases s
  case mk=>exact step_mk ho hop hd hg hr hL h
  case ld p=>exact step_ld ho hop hd hg hr hL hb h
  case sl xs=>exact step_sl ho hop hd hg hr hL hn h
  case ins k t=>cases hk
  case cl f args=>exact step_cl ho hop hd hg hr hL h
  case mv t=>exact step_mv ho hop hd hg hr hL (hn _ (by simp [Sp.needs])) h
  case asg t=>exact step_asg ho hop hd hg hr hL (hn _ (by simp [Sp.needs])) h
theorem inv_start (ho : Os w0 os w) (hz : a.tmps.size = 81) (hd : a.defers = []) (hl : ∀ p,1 ≤ p → p ≤ 12 → a.tmps.getD p undef = .pointer (some ⟨ad p,0,none⟩)) : Inv w0 os ad bx (fun _=>false) a w:=
 ⟨ho,hz,hd,hl,fun _ _ _ _ h=>(by cases h),fun h=>(by cases h),fun h=>(by cases h),fun _ _ _ _ h=>(by cases h),fun h=>(by cases h)⟩
theorem lit_region (T : Tab ops) (hb : ∀ p,1 ≤ p → p ≤ 12 → (ad p,Obj.cells (bx p) 241) ∈ os ∧ (bx p).size = 3) {id : Nat} (h0 : Inv w0 os ad bx (fun _=>false) a w.drew)
  (he : ∀ L a w,(∀ i,i < 78 → L i = true) → Inv w0 os ad bx L a w → Q .normal a w) : (Code.region id ops true).wp Tryz.prog Q a w:=
 wp_region_inv (by kernel_rfl) T.up (Inv w0 os ad bx) h0 (fun _ _ _ _ _ ho hL hw h=>lit_step T hb ho hL hw h) (fun L a w hall h=>he L a w (fun i hi=>hall i (by rw [T.size];exact hi)) h)
end
section
open Go.RowKit Go.Maps
def intB (n : Nat) : Obj:=.cells (intP n) 241
def txtB (n : Nat) : Obj:=.cells (txtP n) 241
def fixB (n : Nat) : Obj:=.cells (fixP n) 241
def rngP : Array Value:=#[fnv 169,fnv 170,fnv 171]
section
variable {w0 v v1 : World} {os : List (Nat × Obj)}
theorem Os.two {n : Nat} {o1 o2 : Obj} (H : Os w0 os v) (hb : Below v.heap.size v v1) (h0 : v1.heap[n]? = some o1) (h1 : v1.heap[n + 1]? = some o2) (c1 : isC o1 = true) (c2 : isC o2 = true) : Os w0 ((n + 1,o2) :: (n,o1) :: os) v1:=
 ((H.below hb).add h0 c1).add h1 c2
end
end
section
open Go.RowKit Go.Maps
theorem parts_bx (w : World) : Calls Tryz.prog 96 #[] w fun e w'=>∃ M bx L,e = .returned (.map (some M)) ∧ Mp w bx L (.map (some M)) w' ∧ (∀ i,i < 78 → L i = true) ∧ Below w.heap.size w w' ∧ ∃ n1 n2 n3 n4 n5 n6 n7 n8 n9,bx 1 = intP n1 ∧ bx 2 = intP n2 ∧ bx 3 = intP n3 ∧ bx 4 = intP n4 ∧ bx 5 = intP n5 ∧ bx 6 = intP n6 ∧ bx 7 = intP n7 ∧ bx 8 = txtP n8 ∧ bx 9 = txtP n9 ∧ bx 12 = rngP ∧ w'.heap[n1]? = some (i64B 4611686018427387903) ∧ w'.heap[n1 + 1]? = some (fnB 245 158) ∧ w'.heap[n2]? = some (i64B 4611686018427387903) ∧ w'.heap[n2 + 1]? = some (fnB 245 159) ∧ w'.heap[n3]? = some (i64B 1099511627776) ∧ w'.heap[n3 + 1]? = some (fnB 245 160) ∧ w'.heap[n4]? = some (i64B 1073741823) ∧ w'.heap[n4 + 1]? = some (fnB 245 161) ∧ w'.heap[n5]? = some (i64B 1099511627776) ∧ w'.heap[n5 + 1]? = some (fnB 245 162) ∧ w'.heap[n6]? = some (i64B 4611686018427387903) ∧ w'.heap[n6 + 1]? = some (fnB 245 163) ∧ w'.heap[n7]? = some (i64B 4611686018427387903) ∧ w'.heap[n7 + 1]? = some (fnB 245 164) ∧ w'.heap[n8]? = some (i64B 0) ∧ w'.heap[n8 + 1]? = some (i64B 1024) ∧ w'.heap[n9]? = some (i64B 0) ∧ w'.heap[n9 + 1]? = some (i64B 64):=by
 have H0:=Lib.hid (Os.start w)
 go_enter Tryz.func96,Tryz.ntmps96
 go_wp2_with fail
 refine (int_ex _ _ _).mono ?_
 rintro e w1 ⟨n1,rfl,h0,h1,hb⟩
 have H1:=Lib.hid (Os.two H0.out hb h0 h1 rfl rfl)
 clear h0 h1 hb H0
 have G1:=Lib.hid (H1.out.alloc (intB n1) rfl)
 clear H1
 unfold intB intP at G1
 go_wp2_with fail
 generalize World.alloc w1 _ = v1 at G1 ⊢
 generalize w1.heap.size = a1 at G1 ⊢
 have H1:=G1;clear G1 w1
 refine (int_ex _ _ _).mono ?_
 rintro e w2 ⟨n2,rfl,h0,h1,hb⟩
 have H2:=Lib.hid (Os.two H1.out hb h0 h1 rfl rfl)
 clear h0 h1 hb H1
 have G2:=Lib.hid (H2.out.alloc (intB n2) rfl)
 clear H2
 unfold intB intP at G2
 go_wp2_with fail
 generalize World.alloc w2 _ = v2 at G2 ⊢
 generalize w2.heap.size = a2 at G2 ⊢
 have H2:=G2;clear G2 w2
 refine (int_ex _ _ _).mono ?_
 rintro e w3 ⟨n3,rfl,h0,h1,hb⟩
 have H3:=Lib.hid (Os.two H2.out hb h0 h1 rfl rfl)
 clear h0 h1 hb H2
 have G3:=Lib.hid (H3.out.alloc (intB n3) rfl)
 clear H3
 unfold intB intP at G3
 go_wp2_with fail
 generalize World.alloc w3 _ = v3 at G3 ⊢
 generalize w3.heap.size = a3 at G3 ⊢
 have H3:=G3;clear G3 w3
 refine (int_ex _ _ _).mono ?_
 rintro e w4 ⟨n4,rfl,h0,h1,hb⟩
 have H4:=Lib.hid (Os.two H3.out hb h0 h1 rfl rfl)
 clear h0 h1 hb H3
 have G4:=Lib.hid (H4.out.alloc (intB n4) rfl)
 clear H4
 unfold intB intP at G4
 go_wp2_with fail
 generalize World.alloc w4 _ = v4 at G4 ⊢
 generalize w4.heap.size = a4 at G4 ⊢
 have H4:=G4;clear G4 w4
 refine (int_ex _ _ _).mono ?_
 rintro e w5 ⟨n5,rfl,h0,h1,hb⟩
 have H5:=Lib.hid (Os.two H4.out hb h0 h1 rfl rfl)
 clear h0 h1 hb H4
 have G5:=Lib.hid (H5.out.alloc (intB n5) rfl)
 clear H5
 unfold intB intP at G5
 go_wp2_with fail
 generalize World.alloc w5 _ = v5 at G5 ⊢
 generalize w5.heap.size = a5 at G5 ⊢
 have H5:=G5;clear G5 w5
 refine (int_ex _ _ _).mono ?_
 rintro e w6 ⟨n6,rfl,h0,h1,hb⟩
 have H6:=Lib.hid (Os.two H5.out hb h0 h1 rfl rfl)
 clear h0 h1 hb H5
 have G6:=Lib.hid (H6.out.alloc (intB n6) rfl)
 clear H6
 unfold intB intP at G6
 go_wp2_with fail
 generalize World.alloc w6 _ = v6 at G6 ⊢
 generalize w6.heap.size = a6 at G6 ⊢
 have H6:=G6;clear G6 w6
 refine (int_ex _ _ _).mono ?_
 rintro e w7 ⟨n7,rfl,h0,h1,hb⟩
 have H7:=Lib.hid (Os.two H6.out hb h0 h1 rfl rfl)
 clear h0 h1 hb H6
 have G7:=Lib.hid (H7.out.alloc (intB n7) rfl)
 clear H7
 unfold intB intP at G7
 go_wp2_with fail
 generalize World.alloc w7 _ = v7 at G7 ⊢
 generalize w7.heap.size = a7 at G7 ⊢
 have H7:=G7;clear G7 w7
 refine (txt_ex _ _ _).mono ?_
 rintro e w8 ⟨n8,rfl,h0,h1,hb⟩
 have H8:=Lib.hid (Os.two H7.out hb h0 h1 rfl rfl)
 clear h0 h1 hb H7
 go_wp2_with fail
 refine (txt_ex _ _ _).mono ?_
 rintro e w9 ⟨n9,rfl,h0,h1,hb⟩
 have H9:=Lib.hid (Os.two H8.out hb h0 h1 rfl rfl)
 clear h0 h1 hb H8
 have G9:=Lib.hid ((H9.out.alloc (txtB n8) rfl).alloc (txtB n9) rfl)
 rw [World.size_alloc] at G9
 clear H9
 unfold txtB txtP fnv at G9
 go_wp2_with fail
 generalize World.alloc (World.alloc w9 _) _ = v9 at G9 ⊢
 generalize w9.heap.size = a9 at G9 ⊢
 have H9:=G9;clear G9 w9
 refine (fix_ex _ _ _).mono ?_
 rintro e w10 ⟨n10,rfl,h0,h1,hb⟩
 have H10:=Lib.hid (Os.two H9.out hb h0 h1 rfl rfl)
 clear h0 h1 hb H9
 have G10:=Lib.hid (H10.out.alloc (fixB n10) rfl)
 clear H10
 unfold fixB fixP at G10
 go_wp2_with fail
 generalize World.alloc w10 _ = v10 at G10 ⊢
 generalize w10.heap.size = a10 at G10 ⊢
 have H10:=G10;clear G10 w10
 refine (fix_ex _ _ _).mono ?_
 rintro e w11 ⟨n11,rfl,h0,h1,hb⟩
 have H11:=Lib.hid (Os.two H10.out hb h0 h1 rfl rfl)
 clear h0 h1 hb H10
 have G11:=Lib.hid (H11.out.alloc (fixB n11) rfl)
 clear H11
 unfold fixB fixP at G11
 have J:=Lib.hid ((G11.out.alloc (.cells #[.func (.func 169) #[] #[],.func (.func 170) #[] #[],.func (.func 171) #[] #[]] 241) rfl))
 rw [World.size_alloc] at J
 clear G11
 go_wp2_with fail
 generalize World.alloc (World.alloc w11 _) _ = v11 at J ⊢
 generalize w11.heap.size = a11 at J ⊢
 refine lit_region (w0:=w) (ad:=fun p=>match p with | 1=>a1 | 2=>a2 | 3=>a3 | 4=>a4 | 5=>a5 | 6=>a6 | 7=>a7 | 8=>a9 | 9=>(a9 + 1) | 10=>a10 | 11=>a11 | 12=>(a11 + 1) | _=>0) (bx:=fun p=>match p with | 1=>intP n1 | 2=>intP n2 | 3=>intP n3 | 4=>intP n4 | 5=>intP n5 | 6=>intP n6 | 7=>intP n7 | 8=>txtP n8 | 9=>txtP n9 | 10=>fixP n10 | 11=>fixP n11 | 12=>rngP | _=>#[]) ⟨by kernel_rfl,by kernel_rfl,by kernel_rfl⟩ (fun p h1 h2=>?_) (inv_start J.out.drew rfl rfl (fun p h1 h2=>?_)) (fun L a v hL hI=>?_)
 ·have hp : p = 1 ∨ p = 2 ∨ p = 3 ∨ p = 4 ∨ p = 5 ∨ p = 6 ∨ p = 7 ∨ p = 8 ∨ p = 9 ∨ p = 10 ∨ p = 11 ∨ p = 12:=by omega
  rcases hp with rfl | rfl | rfl | rfl | rfl | rfl | rfl | rfl | rfl | rfl | rfl | rfl <;> exact ⟨by repeat (first | exact List.mem_cons_self | apply List.mem_cons_of_mem),rfl⟩
 ·have hp : p = 1 ∨ p = 2 ∨ p = 3 ∨ p = 4 ∨ p = 5 ∨ p = 6 ∨ p = 7 ∨ p = 8 ∨ p = 9 ∨ p = 10 ∨ p = 11 ∨ p = 12:=by omega
  rcases hp with rfl | rfl | rfl | rfl | rfl | rfl | rfl | rfl | rfl | rfl | rfl | rfl <;> rfl
 have g0:=hI.asg (hL _ (by decide +kernel))
 have g1:=hI.mv g0.2
 obtain ⟨M,n,D,e1,hm⟩:=hI.mp g1.2
 have e0 : a.tmps.getD 0 undef = .map (some M):=g0.1.trans (g1.1.trans e1)
 go_wp2
 refine bodyPost_ret (v:=.map (some M)) (by simp [results,Tryz.results96,go_sem] at e0 ⊢;exact e0) hI.nod ⟨M,_,L,rfl,⟨M,n,D,rfl,hm⟩,hL,hI.os.bel,n1,n2,n3,n4,n5,n6,n7,n8,n9,rfl,rfl,rfl,rfl,rfl,rfl,rfl,rfl,rfl,rfl,hI.os.at (by repeat (first | exact List.mem_cons_self | apply List.mem_cons_of_mem)),hI.os.at (by repeat (first | exact List.mem_cons_self | apply List.mem_cons_of_mem)),hI.os.at (by repeat (first | exact List.mem_cons_self | apply List.mem_cons_of_mem)),hI.os.at (by repeat (first | exact List.mem_cons_self | apply List.mem_cons_of_mem)),hI.os.at (by repeat (first | exact List.mem_cons_self | apply List.mem_cons_of_mem)),hI.os.at (by repeat (first | exact List.mem_cons_self | apply List.mem_cons_of_mem)),hI.os.at (by repeat (first | exact List.mem_cons_self | apply List.mem_cons_of_mem)),hI.os.at (by repeat (first | exact List.mem_cons_self | apply List.mem_cons_of_mem)),hI.os.at (by repeat (first | exact List.mem_cons_self | apply List.mem_cons_of_mem)),hI.os.at (by repeat (first | exact List.mem_cons_self | apply List.mem_cons_of_mem)),hI.os.at (by repeat (first | exact List.mem_cons_self | apply List.mem_cons_of_mem)),hI.os.at (by repeat (first | exact List.mem_cons_self | apply List.mem_cons_of_mem)),hI.os.at (by repeat (first | exact List.mem_cons_self | apply List.mem_cons_of_mem)),hI.os.at (by repeat (first | exact List.mem_cons_self | apply List.mem_cons_of_mem)),hI.os.at (by repeat (first | exact List.mem_cons_self | apply List.mem_cons_of_mem)),hI.os.at (by repeat (first | exact List.mem_cons_self | apply List.mem_cons_of_mem)),hI.os.at (by repeat (first | exact List.mem_cons_self | apply List.mem_cons_of_mem)),hI.os.at (by repeat (first | exact List.mem_cons_self | apply List.mem_cons_of_mem))⟩
end
section
open Go.RowKit
theorem number_any (n lim : Int) (w : World) (h0 : 0 ≤ n) (hl : n ≤ lim) (hm : n ≤ 4611686018427387903) : Calls Tryz.prog 227 #[.int .i64 n,.int .i64 lim] w fun e w'=>e = .returned (.string (strOfNums (encV n))) ∧ Below w.heap.size w w':=by
 have hg : decide (n > lim) = false:=by simp;omega
 have hg' : (lim < n) = False:=eq_false (by omega)
 have E:=Lib.hid (enc_any n w (by unfold cls;split;omega;split;omega;split;omega;split;omega;omega))
 go_enter Tryz.func227,Tryz.ntmps227
 go_wp2_with (go_at_call 283;refine E.out.mono ?_;rintro e w1 ⟨rfl,hb⟩)
 all_goals (try (simp at hg;omega))
 go_ret
 exact ⟨rfl,hb⟩
end
section
open Go.RowKit
end
end Go.Proofs.YthckbmcmdcemkaaGreatDoor.frm
