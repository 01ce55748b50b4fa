/- Texts of this claim, one behind the other: Rpe Rgs Rpf. -/
import Derived.Test.YthckbmcmdcemkaaGreatDoorBs13
set_option maxRecDepth 100000
set_option maxHeartbeats 16000000
set_option linter.unusedSimpArgs false
set_option linter.unusedVariables false
namespace Go.Proofs.YthckbmcmdcemkaaGreatDoor.rea
section
open Go.RowKit Go.Shelf
attribute [local go_sem] Oper.semAt_some
def bytesOf (s : ByteArray) : List Int:=s.data.toList.map fun b=>(b.toNat : Int)
theorem bytesOf_length (s : ByteArray) : (bytesOf s).length = s.size:=by simp [bytesOf]
theorem bytesOf_get (s : ByteArray) (k : Nat) (h : k < s.size) : gd (bytesOf s) k = ((s[k]'h).toNat : Int):=by
 have h2 : k < s.data.toList.length:=by simpa using h
 unfold bytesOf gd
 rw [List.getElem?_map,List.getElem?_eq_getElem h2]
 rfl
theorem boxes5 (w : World) (o1 o2 o3 o4 o5 : Obj) : (((((w.alloc o1).alloc o2).alloc o3).alloc o4).alloc o5).heap[w.heap.size]? = some o1 ∧ (((((w.alloc o1).alloc o2).alloc o3).alloc o4).alloc o5).heap[w.heap.size + 1]? = some o2 ∧ (((((w.alloc o1).alloc o2).alloc o3).alloc o4).alloc o5).heap[w.heap.size + 2]? = some o3 ∧
  (((((w.alloc o1).alloc o2).alloc o3).alloc o4).alloc o5).heap[w.heap.size + 3]? = some o4 ∧ (((((w.alloc o1).alloc o2).alloc o3).alloc o4).alloc o5).heap[w.heap.size + 4]? = some o5 ∧ Below w.heap.size w (((((w.alloc o1).alloc o2).alloc o3).alloc o4).alloc o5) ∧ (((((w.alloc o1).alloc o2).alloc o3).alloc o4).alloc o5).heap.size = w.heap.size + 5:=by
 obtain ⟨a,a',a'',b,c⟩:=box3 w o1 o2 o3
 obtain ⟨d,d',e,f⟩:=box2 (((w.alloc o1).alloc o2).alloc o3) o4 o5
 rw [c] at d d' f
 refine ⟨(e.block _ (by omega)).trans a,(e.block _ (by omega)).trans a',(e.block _ (by omega)).trans a'',d,d',b.trans (e.mono (by omega)),by omega⟩
theorem heap_own {β : Type} (B : Nat) (k : Nat) (cs : Array Value) (T : TypeId) : OwnFrom B (fun (_ : β) W=>W.heap[k]? = some (.cells cs T (0,0))):=fun s X Y row hs hg hr=>
 (hg.block k (heap_lt hs) (fun e=>by obtain ⟨_,o,ho,hc⟩:=hr k e.symm;rw [hs] at ho;cases ho;cases hc)).trans hs
abbrev OvS (R : Rb) (off : Nat) (s : ByteArray):={ x : Nat × Nat // x ∈ ovl R.at_ off R.bs.length s.size }
def agP (R : Rb) (s : ByteArray) {off : Nat} (l : List (OvS R off s)) : Bool:=l.all fun x=>agAt R.bs R.hs (bytesOf s) x.1.1 x.1.2
theorem agP_snoc (R : Rb) (s : ByteArray) {off : Nat} (l : List (OvS R off s)) (x : OvS R off s) : agP R s (l ++ [x]) = (agP R s l && agAt R.bs R.hs (bytesOf s) x.1.1 x.1.2):=by simp [agP]
theorem agP_whole {R : Rb} {s : ByteArray} {off : Nat} {l : List (OvS R off s)} (h : l.map (·.1) = ovl R.at_ off R.bs.length s.size) : agP R s l = agF R.at_ R.bs R.hs off (bytesOf s):=by
 have : ∀ (m : List (Nat × Nat)),l.map (·.1) = m → (l.all fun x=>agAt R.bs R.hs (bytesOf s) x.1.1 x.1.2) = m.all fun x=>agAt R.bs R.hs (bytesOf s) x.1 x.2:=by
  rintro m rfl;rw [List.all_map];rfl
 unfold agP agF
 rw [bytesOf_length]
 exact this _ h
theorem agP_bad {R : Rb} {s : ByteArray} {off : Nat} {l : List (OvS R off s)} (h : agP R s l = false) : agF R.at_ R.bs R.hs off (bytesOf s) = false:=by
 unfold agP at h
 rw [List.all_eq_false] at h
 obtain ⟨x,hx,h⟩:=h
 unfold agF
 rw [List.all_eq_false]
 exact ⟨x.1,by rw [bytesOf_length];exact x.2,h⟩
theorem agrees_any (b g1 g2 : Nat) (R : Rb) (off : Nat) (s : ByteArray) (fin : Bool) (w : World) (h : RbAt w b g1 g2 R) (hoff : off ≤ 1099511627776) (hs : s.size ≤ 8192) (ha : R.at_ ≤ 1125899906842624) :
  Calls Tryz.prog 325 #[.pointer (some ⟨b,0,none⟩),.agg (pcO off s fin)] w fun e w'=>e = .returned (.bool (agF R.at_ R.bs R.hs off (bytesOf s))) ∧ Below w.heap.size w w':=by
 have X:=Lib.hid (boxes5 w (.cells #[.pointer (some ⟨b,0,none⟩)] 289) (.cells (pcO off s fin) 309) (.cells #[.bool false] 4) (.cells #[.pointer (some ⟨b,0,none⟩)] 289) (.cells (pcO off s fin) 309))
 have HT:=Lib.hid h
 have OV:=Lib.hid (fun wx=>over_any b off s fin wx)
 clear h
 have hsm:=HT.out.sm
 unfold pcO at *
 refine (callsIn_wide (n:=8)).1 ?_
 refine callsIn_of_wp_marks Tryz.func325 rfl trivial ?_ rfl
 simp only [Tryz.ntmps325,List.size_toArray,List.length_cons,List.length_nil,Nat.reduceAdd,Nat.reduceSub,Array.replicate_succ,Array.replicate_zero,List.push_toArray,List.append_toArray,List.nil_append,List.cons_append]
 gi_wp2_with (refine ⟨trivial,(callsIn_wide.2 (OV.out _)).mono ?_⟩;rintro e w' ⟨rfl,rfl⟩)
 generalize ((((w.alloc _).alloc _).alloc _).alloc _).alloc _ = W0 at X ⊢
 obtain ⟨X0,X1,X2,X3,X4,X5,X6⟩:=X.out
 have lb:=heap_lt HT.out.ob
 refine wpIn_rangeFunc_ownH rfl (by decide) (gf:=335) (lb:=#[.pointer (some ⟨w.heap.size + 3,0,none⟩),.pointer (some ⟨w.heap.size + 4,0,none⟩)]) rfl trivial (enters_of Tryz.func335 (by kernel_rfl) rfl)
  (ov_stops 7 (by decide) (w.heap.size + 3) (w.heap.size + 4) b g1 g2 R off s fin hoff hs ha hsm W0 X3 X4 ((X5.block b lb).trans HT.out.ob))
  (fun h k=>h.trans k) (kpO_b (by omega) (by omega) (by omega)) bz0 (fun _=>rfl)
  (fun pre W=>(W.heap[w.heap.size]? = some (.cells #[.pointer (some ⟨b,0,none⟩)] 289 (0,0)) ∧ (W.heap[w.heap.size + 1]? = some (.cells #[.int .i64 off,.string s,.bool fin] 309 (0,0)) ∧ (W.heap[w.heap.size + 2]? = some (.cells #[.bool false] 4 (0,0)) ∧ agP R s pre = true))) ∧ Below w.heap.size w W)
  (fun c pre W=>(W.heap[w.heap.size + 2]? = some (.cells #[.bool false] 4 (0,0)) ∧ (c = .ret ∧ agP R s pre = false)) ∧ Below w.heap.size w W)
  (OwnFrom.and (OwnFrom.and (heap_own _ _ _ _) (OwnFrom.and (heap_own _ _ _ _) (OwnFrom.and (heap_own _ _ _ _) (fun s _ _ _ hs _ _=>hs)))) (ownFrom_below (Nat.le_refl _) (by omega)))
  (fun c=>OwnFrom.and (OwnFrom.and (heap_own _ _ _ _) (fun s _ _ _ hs _ _=>hs)) (ownFrom_below (Nat.le_refl _) (by omega)))
  ⟨⟨X0,X1,X2,rfl⟩,X5⟩
  (fun x a' W=>a' = { tmps:=#[.pointer (some ⟨b,0,none⟩),.agg #[.int .i64 off,.string s,.bool fin],.pointer (some ⟨w.heap.size,0,none⟩),.pointer (some ⟨w.heap.size + 1,0,none⟩),.pointer (some ⟨w.heap.size + 2,0,none⟩),.int .i64 x.1.1,.int .i64 x.1.2,.pointer (some ⟨b,0,none⟩),.agg #[.int .i64 off,.string s,.bool fin],.func (.func 335) #[] #[.pointer (some ⟨w.heap.size + 3,0,none⟩),.pointer (some ⟨w.heap.size + 4,0,none⟩)],.int .i64 x.1.1,.int .i64 x.1.2,undef,undef,undef,undef,undef,undef,undef,undef,undef,undef,undef,undef,undef,undef,undef,undef,undef,undef,undef,undef,undef],defers:=[] })
  (fun x a' s A C row hs hg hr=>hs)
  ?assign ?body ?done ?stop
 case assign=>
  rintro ly pre ⟨⟨i,k⟩,hx⟩ W K hi hK
  simp only [encO] at hK ⊢
  have H1:=Lib.hid (And.intro hi hK)
  clear hi hK
  gi_wp2
  exact H1.out.2 _ _ ((KeepsOthers.refl _).from _) (KpO.refl _ _ _ _) H1.out.1 rfl
 case body=>
  rintro ly pre ⟨⟨i,k⟩,hx⟩ a' W hl ⟨r,hr⟩ ⟨⟨q0,q1,q2,q3⟩,q4⟩ rfl hlen
  obtain ⟨hi,hkm,_⟩:=ovl_mem hx
  simp only at hi hkm ⊢
  have R2:=HT.out.below q4
  have c0:=at_whole q0 0 rfl
  have c1:=at_whole q1 1 rfl
  have y1:=R2.cells.2.1
  have y2:=R2.cells.2.2.1
  have f1:=R2.byte k hkm
  have f2:=R2.flag k hkm
  have z2:=frozen_of_row W (w.heap.size + 2) 0 _ 4 q2
  have c2:=at_whole q2 0 rfl
  simp only [List.getElem_toArray,List.getElem_cons_zero,List.getElem_cons_succ] at c0 c1 c2
  have i0 : (0 : Int) ≤ (k : Int):=by omega
  have i1 : (k : Int) < (R.bs.length : Int):=by omega
  have i2 : (0 : Int) ≤ (i : Int):=by omega
  have i3 : (i : Int) < (s.size : Int):=by omega
  have AS:=Lib.hid (agP_snoc R s pre ⟨(i,k),hx⟩)
  have BG:=Lib.hid (bytesOf_get s i hi)
  have G:=Lib.hid (And.intro q0 (And.intro q1 (And.intro q2 (And.intro q3 q4))))
  clear q0 q1 q2 q3 q4 R2
  obtain ⟨v,hv⟩ : ∃ v,gd R.bs k = v:=⟨_,rfl⟩
  have HV:=Lib.hid hv
  rw [hv] at f1
  clear hv
  cases hf : hg R.hs k with
  | false=>
   rw [hf] at f2
   have e : Hid (agAt R.bs R.hs (bytesOf s) i k = true):=Lib.hid (by unfold agAt;rw [hf];rfl)
   gi_wp2
   refine read_region 12 21 (fun jj=>(#[.pointer (some ⟨b,0,none⟩),.pointer (some ⟨b,0,none⟩),.pointer (some ⟨b,2,none⟩),.slice (some ⟨g2,0,none⟩) R.bs.length R.bs.length,.int .i64 k,.pointer (some ⟨g2,k,none⟩),.bool false,.bool false,undef,undef,undef,undef,undef,undef,undef,undef,undef,undef,undef,undef,.bool false] : Array Value)[jj]?.getD undef) (tm:=#[.pointer (some ⟨b,0,none⟩),.agg #[.int .i64 off,.string s,.bool fin],.pointer (some ⟨w.heap.size,0,none⟩),.pointer (some ⟨w.heap.size + 1,0,none⟩),.pointer (some ⟨w.heap.size + 2,0,none⟩),.int .i64 i,.int .i64 k,.pointer (some ⟨b,0,none⟩),.agg #[.int .i64 off,.string s,.bool fin],.func (.func 335) #[] #[.pointer (some ⟨w.heap.size + 3,0,none⟩),.pointer (some ⟨w.heap.size + 4,0,none⟩)],.int .i64 i,.int .i64 k,.pointer (some ⟨b,0,none⟩),.pointer (some ⟨b,0,none⟩),.pointer (some ⟨b,2,none⟩),.slice (some ⟨g2,0,none⟩) R.bs.length R.bs.length,.int .i64 k,.pointer (some ⟨g2,k,none⟩),.bool false,.bool false,undef,undef,undef,undef,undef,undef,undef,undef,undef,undef,undef,undef,.bool false]) rfl (by kernel_rfl) rfl (by simp) ?_ (by kernel_rfl) ?_
   ·rintro j o hj ho a ⟨hold,hdep⟩
    have o2:=hold 2 (by decide)
    have o6:=hold 6 (by decide)
    simp at o2 o6
    have hjj : j = 0 ∨ j = 1 ∨ j = 2 ∨ j = 3 ∨ j = 4 ∨ j = 5 ∨ j = 6 ∨ j = 7 ∨ j = 8 ∨ j = 9 ∨ j = 10 ∨ j = 11 ∨ j = 12 ∨ j = 13 ∨ j = 14 ∨ j = 15 ∨ j = 16 ∨ j = 17 ∨ j = 18 ∨ j = 19 ∨ j = 20:=by omega
    rcases hjj with rfl | rfl | rfl | rfl | rfl | rfl | rfl | rfl | rfl | rfl | rfl | rfl | rfl | rfl | rfl | rfl | rfl | rfl | rfl | rfl | rfl
    all_goals (cases ho;simp [Region.binds] at hdep;refine ⟨rfl,fun _ hf=>absurd hf (by simp [Oper.about]),?_⟩)
    all_goals first | exact .inr ⟨(by simp [Region.wanted,yielded,hdep];done),rfl⟩ | exact .inl ⟨(by simp [Region.wanted];done),(by simp [go_sem,Act.eval,hdep,o2,o6,c0,y2,f2,i0,i1];done)⟩ | exact .inl ⟨rfl,(by simp [go_sem,Act.eval,hdep,o2,o6,c0,c1,y1,y2,f1,f2,i0,i1,i2,i3];done)⟩ | exact .inl ⟨rfl,(by simp [go_sem,Act.eval,o2,o6,c0,c1,y1,y2,f1,f2,i0,i1,i2,i3];done)⟩
   gi_wp2
   exact ⟨(KeepsOthers.drew _).from _,⟨rfl,rfl,rfl⟩,⟨⟨G.out.1,G.out.2.1,G.out.2.2.1,by rw [AS.out,G.out.2.2.2.1];exact e.out⟩,G.out.2.2.2.2.drew⟩⟩
  | true=>
   rw [hf] at f2
   by_cases hc : v = ((s[i]'hi).toNat : Int)
   ·have e : Hid (agAt R.bs R.hs (bytesOf s) i k = true):=Lib.hid (by unfold agAt;rw [HV.out,BG.out,decide_eq_true hc,Bool.or_true])
    have hcb : (v == ((s[i]'hi).toNat : Int)) = true:=beq_iff_eq.2 hc
    have hcn : (v != ((s[i]'hi).toNat : Int)) = false:=by rw [bne,hcb];rfl
    clear hc
    gi_wp2
    refine read_region 12 21 (fun jj=>(#[.pointer (some ⟨b,0,none⟩),.pointer (some ⟨b,0,none⟩),.pointer (some ⟨b,2,none⟩),.slice (some ⟨g2,0,none⟩) R.bs.length R.bs.length,.int .i64 k,.pointer (some ⟨g2,k,none⟩),.bool true,.bool true,.pointer (some ⟨b,0,none⟩),.pointer (some ⟨b,0,none⟩),.pointer (some ⟨b,1,none⟩),.slice (some ⟨g1,0,none⟩) R.bs.length R.bs.length,.int .i64 k,.pointer (some ⟨g1,k,none⟩),.int .u8 v,.pointer (some ⟨w.heap.size + 1,1,none⟩),.string s,.int .i64 i,.int .u8 ((s[i]'hi).toNat : Int),.bool false,.bool false] : Array Value)[jj]?.getD undef) (tm:=#[.pointer (some ⟨b,0,none⟩),.agg #[.int .i64 off,.string s,.bool fin],.pointer (some ⟨w.heap.size,0,none⟩),.pointer (some ⟨w.heap.size + 1,0,none⟩),.pointer (some ⟨w.heap.size + 2,0,none⟩),.int .i64 i,.int .i64 k,.pointer (some ⟨b,0,none⟩),.agg #[.int .i64 off,.string s,.bool fin],.func (.func 335) #[] #[.pointer (some ⟨w.heap.size + 3,0,none⟩),.pointer (some ⟨w.heap.size + 4,0,none⟩)],.int .i64 i,.int .i64 k,.pointer (some ⟨b,0,none⟩),.pointer (some ⟨b,0,none⟩),.pointer (some ⟨b,2,none⟩),.slice (some ⟨g2,0,none⟩) R.bs.length R.bs.length,.int .i64 k,.pointer (some ⟨g2,k,none⟩),.bool true,.bool true,.pointer (some ⟨b,0,none⟩),.pointer (some ⟨b,0,none⟩),.pointer (some ⟨b,1,none⟩),.slice (some ⟨g1,0,none⟩) R.bs.length R.bs.length,.int .i64 k,.pointer (some ⟨g1,k,none⟩),.int .u8 v,.pointer (some ⟨w.heap.size + 1,1,none⟩),.string s,.int .i64 i,.int .u8 ((s[i]'hi).toNat : Int),.bool false,.bool false]) rfl (by kernel_rfl) rfl (by simp) ?_ (by kernel_rfl) ?_
    ·rintro j o hj ho a ⟨hold,hdep⟩
     have o2:=hold 2 (by decide)
     have o3:=hold 3 (by decide)
     have o5:=hold 5 (by decide)
     have o6:=hold 6 (by decide)
     simp at o2 o3 o5 o6
     have hjj : j = 0 ∨ j = 1 ∨ j = 2 ∨ j = 3 ∨ j = 4 ∨ j = 5 ∨ j = 6 ∨ j = 7 ∨ j = 8 ∨ j = 9 ∨ j = 10 ∨ j = 11 ∨ j = 12 ∨ j = 13 ∨ j = 14 ∨ j = 15 ∨ j = 16 ∨ j = 17 ∨ j = 18 ∨ j = 19 ∨ j = 20:=by omega
     rcases hjj with rfl | rfl | rfl | rfl | rfl | rfl | rfl | rfl | rfl | rfl | rfl | rfl | rfl | rfl | rfl | rfl | rfl | rfl | rfl | rfl | rfl
     all_goals (cases ho;simp [Region.binds] at hdep;refine ⟨rfl,fun _ hf=>absurd hf (by simp [Oper.about]),?_⟩)
     all_goals first | exact .inr ⟨(by simp [Region.wanted,yielded,hdep];done),rfl⟩ | exact .inl ⟨(by simp [Region.wanted,yielded,hdep];done),(by simp [go_sem,Act.eval,hdep,o2,o3,o5,o6,c0,c1,y1,y2,f1,f2,i0,i1,i2,i3,hcn];done)⟩ | exact .inl ⟨rfl,(by simp [go_sem,Act.eval,hdep,o2,o3,o5,o6,c0,c1,y1,y2,f1,f2,i0,i1,i2,i3,hcb,hcn];done)⟩ | exact .inl ⟨rfl,(by simp [go_sem,Act.eval,o2,o3,o5,o6,c0,c1,y1,y2,f1,f2,i0,i1,i2,i3,hcb,hcn];done)⟩
    gi_wp2
    exact ⟨(KeepsOthers.drew _).from _,⟨rfl,rfl,rfl⟩,⟨⟨G.out.1,G.out.2.1,G.out.2.2.1,by rw [AS.out,G.out.2.2.2.1];exact e.out⟩,G.out.2.2.2.2.drew⟩⟩
   ·have e : Hid (agAt R.bs R.hs (bytesOf s) i k = false):=Lib.hid (by unfold agAt;rw [HV.out,BG.out,decide_eq_false hc,hf];rfl)
    have hcb : (v == ((s[i]'hi).toNat : Int)) = false:=beq_eq_false_iff_ne.2 hc
    have hcn : (v != ((s[i]'hi).toNat : Int)) = true:=by rw [bne,hcb];rfl
    gi_wp2
    refine read_region 12 21 (fun jj=>(#[.pointer (some ⟨b,0,none⟩),.pointer (some ⟨b,0,none⟩),.pointer (some ⟨b,2,none⟩),.slice (some ⟨g2,0,none⟩) R.bs.length R.bs.length,.int .i64 k,.pointer (some ⟨g2,k,none⟩),.bool true,.bool true,.pointer (some ⟨b,0,none⟩),.pointer (some ⟨b,0,none⟩),.pointer (some ⟨b,1,none⟩),.slice (some ⟨g1,0,none⟩) R.bs.length R.bs.length,.int .i64 k,.pointer (some ⟨g1,k,none⟩),.int .u8 v,.pointer (some ⟨w.heap.size + 1,1,none⟩),.string s,.int .i64 i,.int .u8 ((s[i]'hi).toNat : Int),.bool true,.bool true] : Array Value)[jj]?.getD undef) (tm:=#[.pointer (some ⟨b,0,none⟩),.agg #[.int .i64 off,.string s,.bool fin],.pointer (some ⟨w.heap.size,0,none⟩),.pointer (some ⟨w.heap.size + 1,0,none⟩),.pointer (some ⟨w.heap.size + 2,0,none⟩),.int .i64 i,.int .i64 k,.pointer (some ⟨b,0,none⟩),.agg #[.int .i64 off,.string s,.bool fin],.func (.func 335) #[] #[.pointer (some ⟨w.heap.size + 3,0,none⟩),.pointer (some ⟨w.heap.size + 4,0,none⟩)],.int .i64 i,.int .i64 k,.pointer (some ⟨b,0,none⟩),.pointer (some ⟨b,0,none⟩),.pointer (some ⟨b,2,none⟩),.slice (some ⟨g2,0,none⟩) R.bs.length R.bs.length,.int .i64 k,.pointer (some ⟨g2,k,none⟩),.bool true,.bool true,.pointer (some ⟨b,0,none⟩),.pointer (some ⟨b,0,none⟩),.pointer (some ⟨b,1,none⟩),.slice (some ⟨g1,0,none⟩) R.bs.length R.bs.length,.int .i64 k,.pointer (some ⟨g1,k,none⟩),.int .u8 v,.pointer (some ⟨w.heap.size + 1,1,none⟩),.string s,.int .i64 i,.int .u8 ((s[i]'hi).toNat : Int),.bool true,.bool true]) rfl (by kernel_rfl) rfl (by simp) ?_ (by kernel_rfl) ?_
    ·rintro j o hj ho a ⟨hold,hdep⟩
     have o2:=hold 2 (by decide)
     have o3:=hold 3 (by decide)
     have o5:=hold 5 (by decide)
     have o6:=hold 6 (by decide)
     simp at o2 o3 o5 o6
     have hjj : j = 0 ∨ j = 1 ∨ j = 2 ∨ j = 3 ∨ j = 4 ∨ j = 5 ∨ j = 6 ∨ j = 7 ∨ j = 8 ∨ j = 9 ∨ j = 10 ∨ j = 11 ∨ j = 12 ∨ j = 13 ∨ j = 14 ∨ j = 15 ∨ j = 16 ∨ j = 17 ∨ j = 18 ∨ j = 19 ∨ j = 20:=by omega
     rcases hjj with rfl | rfl | rfl | rfl | rfl | rfl | rfl | rfl | rfl | rfl | rfl | rfl | rfl | rfl | rfl | rfl | rfl | rfl | rfl | rfl | rfl
     all_goals (cases ho;simp [Region.binds] at hdep;refine ⟨rfl,fun _ hf=>absurd hf (by simp [Oper.about]),?_⟩)
     all_goals first | exact .inr ⟨(by simp [Region.wanted,yielded,hdep];done),rfl⟩ | exact .inl ⟨(by simp [Region.wanted,yielded,hdep];done),(by simp [go_sem,Act.eval,hdep,o2,o3,o5,o6,c0,c1,y1,y2,f1,f2,i0,i1,i2,i3,hcn];done)⟩ | exact .inl ⟨rfl,(by simp [go_sem,Act.eval,hdep,o2,o3,o5,o6,c0,c1,y1,y2,f1,f2,i0,i1,i2,i3,hcb,hcn];done)⟩ | exact .inl ⟨rfl,(by simp [go_sem,Act.eval,o2,o3,o5,o6,c0,c1,y1,y2,f1,f2,i0,i1,i2,i3,hcb,hcn];done)⟩
    gi_wp2
    refine ⟨(((KeepsOthers.drew _).trans (KeepsOthers.setCell _ _ _))).from _,⟨⟨?_,rfl,by rw [AS.out];simp only [e.out,Bool.and_false]⟩,G.out.2.2.2.2.drew.setCell (p:=⟨w.heap.size + 2,0,none⟩) (by simp) _⟩⟩
    exact heap_setCell_same W.drew (w.heap.size + 2) 0 _ 4 _ G.out.2.2.1
 case done=>
  rintro D ys W hD hys ⟨⟨_,_,q2,q3⟩,q4⟩ hK
  have hag : Hid (agF R.at_ R.bs R.hs off (bytesOf s) = true):=Lib.hid (by rw [← agP_whole hys];exact q3)
  have H:=Lib.hid (And.intro q2 (And.intro q4 hK))
  have c1:=at_whole q2 0 rfl
  have z1:=frozen_of_row W (w.heap.size + 2) 0 _ 4 q2
  simp only [List.getElem_toArray,List.getElem_cons_zero] at c1
  clear q2 q3 q4 hK hys
  gi_wp2
  refine ⟨by simp,.inl ⟨_,_,rfl,run_takeDeferred ((KeepsOthers.setCell _ _ _).same D _ H.out.2.2 rfl),?_⟩⟩
  have hD2 : w.heap.size + 2 ≠ D:=by omega
  have hc:=at_whole ((World.putObj_heap_other (w:=W.setCell ⟨w.heap.size + 2,0,none⟩ (.bool true)) (o:=.deferred none) hD2).trans (heap_setCell_same W (w.heap.size + 2) 0 _ 4 (.bool true) H.out.1)) 0 rfl
  refine ⟨.bool true,by simp [results,Tryz.f325,go_sem,hc],?_,?_⟩
  ·rw [hag.out]
  ·have hb:=H.out.2.1.setCell (p:=⟨w.heap.size + 2,0,none⟩) (by simp) (.bool true)
   exact hb.trans (belowK_b (w:=w) (Nat.le_refl _) _ D _ _ (by omega) ((KeepsOthers.setCell W ⟨w.heap.size + 2,0,none⟩ (.bool true)).same D _ H.out.2.2 rfl) rfl rfl)
 case stop=>
  rintro D c pre W hD _ ⟨⟨q1,rfl,q2⟩,q3⟩ hK
  have H:=Lib.hid (And.intro q1 (And.intro (agP_bad q2) (And.intro q3 hK)))
  have c1:=at_whole q1 0 rfl
  simp only [List.getElem_toArray,List.getElem_cons_zero] at c1
  clear q1 q2 q3 hK
  gi_wp2
  refine ⟨by simp,.inl ⟨_,_,rfl,run_takeDeferred H.out.2.2.2,?_⟩⟩
  have hD2 : w.heap.size + 2 ≠ D:=by omega
  have hc:=at_whole ((World.putObj_heap_other (w:=W) (o:=.deferred none) hD2).trans H.out.1) 0 rfl
  refine ⟨.bool false,by simp [results,Tryz.f325,go_sem,hc],?_,?_⟩
  ·rw [H.out.2.1]
  ·exact H.out.2.2.1.trans (belowK_b (w:=w) (Nat.le_refl _) _ D _ _ (by omega) H.out.2.2.2 rfl rfl)
end
section
open Go.RowKit
section
variable {F : Fence} {n : Nat} {P : Program} {ops : Array Oper} {Q : Exit → Act → World → Prop}
structure SInv (s mm m : Nat) (slot : Nat → Option Nat) (tv : Nat → Value) (sp sq : Nat) (WR : Bool → Bool → World → Prop) (A0 : Act) (L : Nat → Bool) (a : Act) (w : World) : Prop where
 nod : a.defers = A0.defers
 size : a.tmps.size = A0.tmps.size
 old : ∀ p,p < s ∨ s + mm ≤ p → a.tmps[p]? = A0.tmps[p]?
 new : ∀ i d,i < m → slot i = some d → L i = true → a.tmps[d]? = some (tv (d - s))
 w : WR (L sp) (L sq) w
structure SHas (s mm m : Nat) (slot : Nat → Option Nat) (tv : Nat → Value) (A0 : Act) (o : Oper) (a : Act) : Prop where
 old : ∀ p,p < s ∨ s + mm ≤ p → a.tmps[p]? = A0.tmps[p]?
 dep : ∀ e ∈ o.after,Region.binds .any e = true → e.on < m → ∀ d,slot e.on = some d → a.tmps[d]? = some (tv (d - s))
theorem rw_region {id : Nat} (s mm m : Nat) (slot : Nat → Option Nat) (tv : Nat → Value) (sp sq : Nat) (WR : Bool → Bool → World → Prop) {A0 : Act} {W0 : World} {tm : Array Value} (hm : P.follows .mixedOrders = true) (hu : upward ops = true) (hz : ops.size = m) (hsz : s + mm ≤ A0.tmps.size)
  (hsl : ∀ i d,i < m → slot i = some d → s ≤ d ∧ d < s + mm) (hin : ∀ i j d,i < m → j < m → slot i = some d → slot j = some d → i = j) (hcv : ∀ j,j < mm → ∃ i,i < m ∧ slot i = some (s + j)) (hp : slot sp = none) (hq : slot sq = none) (hpq : sp ≠ sq) (hpm : sp < m) (hqm : sq < m)
  (h0 : WR false false W0.drew)
  (hop : ∀ i o,i < m → ops[i]? = some o → ∀ a w d1 d2,WR d1 d2 w → SHas s mm m slot tv A0 o a → o.dst = slot i ∧ o.guard = none ∧ (∀ f,o.about P w a.eval = some f → F.fn f) ∧
   ((i = sp ∧ ∃ w',(o.semAt F.round a.eval).run P w = .ok .skip w' ∧ WR true d2 w') ∨ (i = sq ∧ ∃ w',(o.semAt F.round a.eval).run P w = .ok .skip w' ∧ WR d1 true w') ∨ (∃ d,slot i = some d ∧ (o.semAt F.round a.eval).run P w = .ok (.value (tv (d - s))) w)))
  (htm : (List.range mm).foldl (fun t j=>t.setIfInBounds (s + j) (tv j)) A0.tmps = tm) (h : ∀ w,WR true true w → Q .normal { tmps:=tm,defers:=A0.defers } w) : (Code.region id ops true).wpIn F n P Q A0 W0:=by
 refine wpIn_region_inv hm hu (fun L a w=>SInv s mm m slot tv sp sq WR A0 L a w) ⟨rfl,rfl,fun _ _=>rfl,(fun _ _ _ _ h=>by cases h),h0⟩ ?_ ?_
 ·rintro L a w i o ho hL hdep hI
  have hi : i < m:=by have:=(Array.getElem?_eq_some_iff.1 ho).1;omega
  obtain ⟨h1,hg,h3,h4⟩:=hop i o hi ho a w _ _ hI.w ⟨hI.old,fun e he hb hlt d hd=>hI.new _ d hlt hd (hdep e he hb)⟩
  refine wpOpIn_step ho fun K' hK=>?_
  rw [if_pos (by simp [Region.wanted,hg])]
  unfold Oper.wpIn
  refine ⟨h3,?_⟩
  have stay : ∀ (b : Nat),slot b = none → ∀ j d,j < m → slot j = some d → (j == b || L j) = true → a.tmps[d]? = some (tv (d - s)):=by
   intro b hb j d hj hd hl
   rcases Bool.or_eq_true .. ▸ hl with e | e
   ·rw [beq_iff_eq] at e;subst e;rw [hb] at hd;cases hd
   ·exact hI.new j d hj hd e
  rcases h4 with ⟨rfl,w',h5,h6⟩ | ⟨rfl,w',h5,h6⟩ | ⟨d,hd,h5⟩
  ·rw [h5]
   refine hK _ _ ⟨?_,?_,?_,?_,?_⟩
   ·rw [h1,hp];exact hI.nod
   ·rw [h1,hp];exact hI.size
   ·rw [h1,hp];exact hI.old
   ·rw [h1,hp];exact stay i hp
   ·have e2 : (sq == i) = false:=beq_eq_false_iff_ne.2 (fun e=>hpq e.symm)
    simp only [beq_self_eq_true,Bool.true_or,e2,Bool.false_or]
    exact h6
  ·rw [h5]
   refine hK _ _ ⟨?_,?_,?_,?_,?_⟩
   ·rw [h1,hq];exact hI.nod
   ·rw [h1,hq];exact hI.size
   ·rw [h1,hq];exact hI.old
   ·rw [h1,hq];exact stay i hq
   ·have e2 : (sp == i) = false:=beq_eq_false_iff_ne.2 hpq
    simp only [beq_self_eq_true,Bool.true_or,e2,Bool.false_or]
    exact h6
  ·rw [h5]
   obtain ⟨s1,s2⟩:=hsl i d hi hd
   have hsi : d < a.tmps.size:=by rw [hI.size];omega
   have ep : (sp == i) = false:=beq_eq_false_iff_ne.2 (fun e=>by subst e;rw [hp] at hd;cases hd)
   have eq : (sq == i) = false:=beq_eq_false_iff_ne.2 (fun e=>by subst e;rw [hq] at hd;cases hd)
   refine hK _ _ ⟨?_,?_,?_,?_,?_⟩
   ·rw [h1,hd];exact hI.nod
   ·rw [h1,hd];show (a.tmps.setIfInBounds _ _).size = _;simpa using hI.size
   ·rw [h1,hd]
    intro p hp2
    show (a.tmps.setIfInBounds _ _)[p]? = _
    rw [Array.getElem?_setIfInBounds_ne (by omega)]
    exact hI.old p hp2
   ·rw [h1,hd]
    intro j d2 hj hd2 hl
    show (a.tmps.setIfInBounds _ _)[d2]? = _
    by_cases hji : j = i
    ·subst hji
     rw [hd] at hd2;cases hd2
     exact Array.getElem?_setIfInBounds_self_of_lt hsi
    ·have hne : d ≠ d2:=fun e=>hji (hin j i d2 hj hi hd2 (by rw [hd,e]))
     rw [Array.getElem?_setIfInBounds_ne hne]
     rcases Bool.or_eq_true .. ▸ hl with e | e
     ·exact absurd (beq_iff_eq.1 e) hji
     ·exact hI.new j d2 hj hd2 e
   ·simp only [ep,eq,Bool.false_or]
    exact hI.w
 ·rintro L a w hall hI
  have ha : a = { tmps:=tm,defers:=A0.defers }:=by
   obtain ⟨at_,ad⟩:=a
   have h1 : ad = A0.defers:=hI.nod
   have h2 : at_ = tm:=by
    rw [← htm]
    apply Array.ext_getElem?
    intro p
    rw [foldl_set s mm tv A0.tmps hsz p]
    by_cases hp2 : s ≤ p ∧ p < s + mm
    ·rw [if_pos hp2]
     obtain ⟨i,hi,hd⟩:=hcv (p - s) (by omega)
     rw [show s + (p - s) = p by omega] at hd
     exact hI.new i p hi hd (hall i (by omega))
    ·rw [if_neg hp2]
     exact hI.old p (by omega)
   rw [h1,h2]
  rw [ha]
  have:=hI.w
  rw [hall sp (by omega),hall sq (by omega)] at this
  exact h w this
end
end
section
open Go.RowKit Go.Shelf
attribute [local go_sem] Oper.semAt_some
def holdB (s : List Int) (l : List (Nat × Nat)) (bs : List Int) : List Int:=l.foldl (fun b x=>b.set x.2 (gd s x.1)) bs
def holdH (l : List (Nat × Nat)) (hs : List Bool) : List Bool:=l.foldl (fun b x=>b.set x.2 true) hs
theorem holdB_snoc (s : List Int) (l : List (Nat × Nat)) (x : Nat × Nat) (bs : List Int) : holdB s (l ++ [x]) bs = (holdB s l bs).set x.2 (gd s x.1):=by simp [holdB]
theorem holdH_snoc (l : List (Nat × Nat)) (x : Nat × Nat) (hs : List Bool) : holdH (l ++ [x]) hs = (holdH l hs).set x.2 true:=by simp [holdH]
theorem holdB_length (s : List Int) (l : List (Nat × Nat)) (bs : List Int) : (holdB s l bs).length = bs.length:=by
 unfold holdB
 induction l generalizing bs with
 | nil=>rfl
 | cons x l ih=>rw [List.foldl_cons,ih,List.length_set]
theorem holdH_length (l : List (Nat × Nat)) (hs : List Bool) : (holdH l hs).length = hs.length:=by
 unfold holdH
 induction l generalizing hs with
 | nil=>rfl
 | cons x l ih=>rw [List.foldl_cons,ih,List.length_set]
theorem hold_take (a off : Int) (s : List Int) (n : Nat) (bs : List Int) (hs : List Bool) (hl : hs.length = bs.length) (j : Nat) : j ≤ (ovl a off bs.length n).length →
  holdB s ((ovl a off bs.length n).take j) bs = putB a off s (ovA a off + j) bs ∧ holdH ((ovl a off bs.length n).take j) hs = putH a off (ovA a off + j) hs:=by
 induction j with
 | zero=>intro _;exact ⟨(putB_start a off s bs).symm,(putH_start a off hs).symm⟩
 | succ j ih=>
  intro hj
  obtain ⟨h1,h2⟩:=ih (by omega)
  rw [ovl_length] at hj
  obtain ⟨m1,m2,m3⟩:=ovl_mem (ovl_at a off bs.length n (k:=j) (by omega))
  simp only at m1 m2 m3
  rw [ovl_take a off bs.length n (k:=j) (by omega),holdB_snoc,holdH_snoc,h1,h2]
  exact ⟨(putB_succ a off s _ bs _ m3 m2).symm,(putH_succ a off _ hs _ m3 (by rw [hl];exact m2)).symm⟩
theorem hold_all (a off : Int) (s : List Int) (n : Nat) (bs : List Int) (hs : List Bool) (hl : hs.length = bs.length) :
  holdB s (ovl a off bs.length n) bs = putB a off s n bs ∧ holdH (ovl a off bs.length n) hs = putH a off n hs:=by
 obtain ⟨h1,h2⟩:=hold_take a off s n bs hs hl _ (Nat.le_refl _)
 rw [List.take_length] at h1 h2
 rw [h1,h2,ovl_length]
 have e : ovA a off + (ovB a off bs.length n - ovA a off) = ovB a off bs.length n:=by unfold ovB;omega
 rw [e]
 exact ⟨putB_end a off s bs.length n bs rfl,putH_end a off bs.length n hs hl⟩
theorem boxes4 (w : World) (o1 o2 o3 o4 : Obj) : ((((w.alloc o1).alloc o2).alloc o3).alloc o4).heap[w.heap.size]? = some o1 ∧ ((((w.alloc o1).alloc o2).alloc o3).alloc o4).heap[w.heap.size + 1]? = some o2 ∧ ((((w.alloc o1).alloc o2).alloc o3).alloc o4).heap[w.heap.size + 2]? = some o3 ∧
  ((((w.alloc o1).alloc o2).alloc o3).alloc o4).heap[w.heap.size + 3]? = some o4 ∧ Below w.heap.size w ((((w.alloc o1).alloc o2).alloc o3).alloc o4) ∧ ((((w.alloc o1).alloc o2).alloc o3).alloc o4).heap.size = w.heap.size + 4:=by
 obtain ⟨a,a',b,c⟩:=box2 w o1 o2
 obtain ⟨d,d',e,f⟩:=box2 ((w.alloc o1).alloc o2) o3 o4
 rw [c] at d d' f
 exact ⟨(e.block _ (by omega)).trans a,(e.block _ (by omega)).trans a',d,d',b.trans (e.mono (by omega)),by omega⟩
theorem u8_set {W : World} {g k : Nat} {l : List Int} (v : Int) (h : W.heap[g]? = some (u8s l)) : (W.setCell ⟨g,k,none⟩ (.int .u8 v)).heap[g]? = some (u8s (l.set k v)):=by
 refine (heap_setCell_same W g k _ 5 (.int .u8 v) h).trans ?_
 unfold u8s
 rw [List.map_set];simp
theorem bl_set {W : World} {g k : Nat} {l : List Bool} (v : Bool) (h : W.heap[g]? = some (bls l)) : (W.setCell ⟨g,k,none⟩ (.bool v)).heap[g]? = some (bls (l.set k v)):=by
 refine (heap_setCell_same W g k _ 4 (.bool v) h).trans ?_
 unfold bls
 rw [List.map_set];simp
theorem set_far {W : World} {g k j : Nat} {v : Value} {o : Option Obj} (h : W.heap[j]? = o) (hne : g ≠ j) : (W.setCell ⟨g,k,none⟩ v).heap[j]? = o:=(heap_setCell_other W _ j v (fun e=>hne (by first | exact e | exact e.symm))).trans h
def slotH (i : Nat) : Option Nat:=if i < 15 then some (11 + i) else if i = 16 then some 26 else none
theorem slotH_is {i d : Nat} (h : slotH i = some d) : (i < 15 ∧ d = 11 + i) ∨ (i = 16 ∧ d = 26):=by
 unfold slotH at h
 split at h
 ·cases h;exact .inl ⟨‹_›,rfl⟩
 ·split at h
  ·cases h;exact .inr ⟨‹_›,rfl⟩
  ·cases h
theorem slotH_cov (j : Nat) (h : j < 16) : ∃ i,i < 18 ∧ slotH i = some (11 + j):=by
 by_cases e : j < 15
 ·exact ⟨j,by omega,by unfold slotH;rw [if_pos e]⟩
 ·exact ⟨16,by omega,by (have : j = 15:=by omega);subst this;rfl⟩
structure WRh (w W : World) (b g1 g2 : Nat) (R : Rb) (off : Nat) (s : ByteArray) (fin : Bool) (l1 : List Int) (l2 : List Bool) (k : Nat) (x : Int) (d1 d2 : Bool) (W' : World) : Prop where
 q0 : W'.heap[w.heap.size]? = some (.cells #[.pointer (some ⟨b,0,none⟩)] 289 (0,0))
 q1 : W'.heap[w.heap.size + 1]? = some (.cells #[.int .i64 off,.string s,.bool fin] 309 (0,0))
 q2 : W'.heap[b]? = some (.cells (R.cells g1 g2) 227 (0,0))
 q3 : W'.heap[g1]? = some (u8s (if d1 then l1.set k x else l1))
 q4 : W'.heap[g2]? = some (bls (if d2 then l2.set k true else l2))
 q5 : Tr b g1 g2 w W'
 q6 : KeepsOthers W W'
 q7 : KpO (w.heap.size + 2) (w.heap.size + 3) b W W'
theorem WRh.st1 {w W : World} {b g1 g2 : Nat} {R : Rb} {off : Nat} {s : ByteArray} {fin : Bool} {l1 : List Int} {l2 : List Bool} {k : Nat} {x : Int} {d1 d2 : Bool} {W' : World} (h : WRh w W b g1 g2 R off s fin l1 l2 k x d1 d2 W') (hb : b ≠ g1 ∧ b ≠ g2 ∧ g1 ≠ g2) (hl : g1 < w.heap.size) :
  WRh w W b g1 g2 R off s fin l1 l2 k x true d2 (W'.setCell ⟨g1,k,none⟩ (.int .u8 x)):=
 ⟨set_far h.q0 (by omega),set_far h.q1 (by omega),set_far h.q2 (by omega),by
  have:=u8_set (k:=k) x h.q3
  rw [this]
  cases d1 <;> simp,set_far h.q4 (by omega),h.q5.set (.inr (.inl rfl)) _,h.q6.trans (KeepsOthers.setCell _ _ _),h.q7.trans ⟨set_far rfl (by omega),set_far rfl (by omega),set_far rfl (by omega)⟩⟩
theorem WRh.st2 {w W : World} {b g1 g2 : Nat} {R : Rb} {off : Nat} {s : ByteArray} {fin : Bool} {l1 : List Int} {l2 : List Bool} {k : Nat} {x : Int} {d1 d2 : Bool} {W' : World} (h : WRh w W b g1 g2 R off s fin l1 l2 k x d1 d2 W') (hb : b ≠ g1 ∧ b ≠ g2 ∧ g1 ≠ g2) (hl : g2 < w.heap.size) :
  WRh w W b g1 g2 R off s fin l1 l2 k x d1 true (W'.setCell ⟨g2,k,none⟩ (.bool true)):=
 ⟨set_far h.q0 (by omega),set_far h.q1 (by omega),set_far h.q2 (by omega),set_far h.q3 (by omega),by
  have:=bl_set (k:=k) true h.q4
  rw [this]
  cases d2 <;> simp,h.q5.set (.inr (.inr rfl)) _,h.q6.trans (KeepsOthers.setCell _ _ _),h.q7.trans ⟨set_far rfl (by omega),set_far rfl (by omega),set_far rfl (by omega)⟩⟩
theorem hold_any (b g1 g2 : Nat) (R : Rb) (off : Nat) (s : ByteArray) (fin : Bool) (w : World) (h : RbAt w b g1 g2 R) (hoff : off ≤ 1099511627776) (hs : s.size ≤ 8192) (ha : R.at_ ≤ 1125899906842624) :
  Calls Tryz.prog 305 #[.pointer (some ⟨b,0,none⟩),.agg (pcO off s fin)] w fun e w'=>e = .returned (.tuple #[]) ∧ Tr b g1 g2 w w' ∧ RbAt w' b g1 g2 { R with bs:=putB R.at_ off (bytesOf s) s.size R.bs,hs:=putH R.at_ off s.size R.hs }:=by
 have X:=Lib.hid (boxes4 w (.cells #[.pointer (some ⟨b,0,none⟩)] 289) (.cells (pcO off s fin) 309) (.cells #[.pointer (some ⟨b,0,none⟩)] 289) (.cells (pcO off s fin) 309))
 have HT:=Lib.hid h
 have OV:=Lib.hid (fun wx=>over_any b off s fin wx)
 clear h
 have hsm:=HT.out.sm
 have hnn:=HT.out.ne
 unfold pcO at *
 refine (callsIn_wide (n:=8)).1 ?_
 refine callsIn_of_wp_marks Tryz.func305 rfl trivial ?_ rfl
 simp only [Tryz.ntmps305,List.size_toArray,List.length_cons,List.length_nil,Nat.reduceAdd,Nat.reduceSub,Array.replicate_succ,Array.replicate_zero,List.push_toArray,List.append_toArray,List.nil_append,List.cons_append]
 gi_wp2_with (refine ⟨trivial,(callsIn_wide.2 (OV.out _)).mono ?_⟩;rintro e w' ⟨rfl,rfl⟩)
 generalize (((w.alloc _).alloc _).alloc _).alloc _ = W0 at X ⊢
 obtain ⟨X0,X1,X2,X3,X5,X6⟩:=X.out
 have lb:=heap_lt HT.out.ob
 have l1:=heap_lt HT.out.o1
 have l2:=heap_lt HT.out.o2
 refine wpIn_rangeFunc_ownH rfl (by decide) (gf:=335) (lb:=#[.pointer (some ⟨w.heap.size + 2,0,none⟩),.pointer (some ⟨w.heap.size + 3,0,none⟩)]) rfl trivial (enters_of Tryz.func335 (by kernel_rfl) rfl)
  (ov_stops 7 (by decide) (w.heap.size + 2) (w.heap.size + 3) b g1 g2 R off s fin hoff hs ha hsm W0 X2 X3 ((X5.block b lb).trans HT.out.ob))
  (fun h k=>h.trans k) (kpO_b (by omega) (by omega) (by omega)) bz0 (fun _=>rfl)
  (fun pre W=>(W.heap[w.heap.size]? = some (.cells #[.pointer (some ⟨b,0,none⟩)] 289 (0,0)) ∧ (W.heap[w.heap.size + 1]? = some (.cells #[.int .i64 off,.string s,.bool fin] 309 (0,0)) ∧ (W.heap[b]? = some (.cells (R.cells g1 g2) 227 (0,0)) ∧
   (W.heap[g1]? = some (u8s (holdB (bytesOf s) (pre.map (·.1)) R.bs)) ∧ W.heap[g2]? = some (bls (holdH (pre.map (·.1)) R.hs)))))) ∧ Tr b g1 g2 w W)
  (fun _ _ _=>False)
  (OwnFrom.and (OwnFrom.and (heap_own _ _ _ _) (OwnFrom.and (heap_own _ _ _ _) (OwnFrom.and (heap_own _ _ _ _) (OwnFrom.and (fun s A C row hs hg hr=>heap_own _ _ _ _ () A C row hs hg hr) (fun s A C row hs hg hr=>heap_own _ _ _ _ () A C row hs hg hr))))) (fun s A C row hs hg hr=>⟨hg.os.trans hs.os,hg.tape.trans hs.tape,hg.output.trans hs.output,Nat.le_trans hs.size hg.size,fun j hj h1 h2 h3=>(hg.block j (Nat.lt_of_lt_of_le hj hs.size) (fun e=>by obtain ⟨hB,_⟩:=hr j e.symm;omega)).trans (hs.block j hj h1 h2 h3)⟩))
  (fun c=>fun s _ _ _ hs _ _=>hs)
  ⟨⟨X0,X1,(X5.block b lb).trans HT.out.ob,(X5.block g1 l1).trans HT.out.o1,(X5.block g2 l2).trans HT.out.o2⟩,(Tr.refl b g1 g2 w).below X5⟩
  (fun x a' W=>a' = { tmps:=#[.pointer (some ⟨b,0,none⟩),.agg #[.int .i64 off,.string s,.bool fin],.pointer (some ⟨w.heap.size,0,none⟩),.pointer (some ⟨w.heap.size + 1,0,none⟩),.int .i64 x.1.1,.int .i64 x.1.2,.pointer (some ⟨b,0,none⟩),.agg #[.int .i64 off,.string s,.bool fin],.func (.func 335) #[] #[.pointer (some ⟨w.heap.size + 2,0,none⟩),.pointer (some ⟨w.heap.size + 3,0,none⟩)],.int .i64 x.1.1,.int .i64 x.1.2,undef,undef,undef,undef,undef,undef,undef,undef,undef,undef,undef,undef,undef,undef,undef,undef],defers:=[] })
  (fun x a' s A C row hs hg hr=>hs)
  ?assign ?body ?done ?stop
 case assign=>
  rintro ly pre ⟨⟨i,k⟩,hx⟩ W K hi hK
  simp only [encO] at hK ⊢
  have H1:=Lib.hid (And.intro hi hK)
  clear hi hK
  gi_wp2
  exact H1.out.2 _ _ ((KeepsOthers.refl _).from _) (KpO.refl _ _ _ _) H1.out.1 rfl
 case body=>
  rintro ly pre ⟨⟨i,k⟩,hx⟩ a' W hl ⟨r,hr⟩ ⟨⟨q0,q1,q2,q3,q4⟩,q5⟩ rfl hlen
  obtain ⟨hi,hkm,_⟩:=ovl_mem hx
  simp only at hi hkm ⊢
  have hl1:=holdB_length (bytesOf s) (pre.map (·.1)) R.bs
  have hl2:=holdH_length (pre.map (·.1)) R.hs
  have hl3:=HT.out.hl
  have i0 : (0 : Int) ≤ (k : Int):=by omega
  have i1 : (k : Int) < (R.bs.length : Int):=by omega
  have i2 : (0 : Int) ≤ (i : Int):=by omega
  have i3 : (i : Int) < (s.size : Int):=by omega
  have AB:=Lib.hid (holdB_snoc (bytesOf s) (pre.map (·.1)) (i,k) R.bs)
  have AH:=Lib.hid (holdH_snoc (pre.map (·.1)) (i,k) R.hs)
  have BG:=Lib.hid (bytesOf_get s i hi)
  obtain ⟨L1,hL1⟩ : ∃ L1,holdB (bytesOf s) (pre.map (·.1)) R.bs = L1:=⟨_,rfl⟩
  obtain ⟨L2,hL2⟩ : ∃ L2,holdH (pre.map (·.1)) R.hs = L2:=⟨_,rfl⟩
  rw [hL1] at q3 hl1 AB
  rw [hL2] at q4 hl2 AH
  have W00 : WRh w W b g1 g2 R off s fin L1 L2 k ((s[i]'hi).toNat : Int) false false W.drew:=⟨q0,q1,q2,q3,q4,q5.below (Below.refl _ W).drew,KeepsOthers.drew W,⟨rfl,rfl,rfl⟩⟩
  have kl1 : k < L1.length:=by omega
  have kl2 : k < L2.length:=by omega
  clear q0 q1 q2 q3 q4 q5 hL1 hL2 hl1 hl2 hl3
  gi_wp2
  refine rw_region 11 16 18 slotH (fun jj=>(#[.pointer (some ⟨b,0,none⟩),.pointer (some ⟨b,0,none⟩),.pointer (some ⟨b,1,none⟩),.slice (some ⟨g1,0,none⟩) R.bs.length R.bs.length,.int .i64 k,.pointer (some ⟨b,0,none⟩),.pointer (some ⟨b,0,none⟩),.pointer (some ⟨b,2,none⟩),.slice (some ⟨g2,0,none⟩) R.bs.length R.bs.length,.int .i64 k,.pointer (some ⟨w.heap.size + 1,1,none⟩),.string s,.int .i64 i,.int .u8 ((s[i]'hi).toNat : Int),.pointer (some ⟨g1,k,none⟩),.pointer (some ⟨g2,k,none⟩)] : Array Value)[jj]?.getD undef) 15 17 (WRh w W b g1 g2 R off s fin L1 L2 k ((s[i]'hi).toNat : Int)) (tm:=#[.pointer (some ⟨b,0,none⟩),.agg #[.int .i64 off,.string s,.bool fin],.pointer (some ⟨w.heap.size,0,none⟩),.pointer (some ⟨w.heap.size + 1,0,none⟩),.int .i64 i,.int .i64 k,.pointer (some ⟨b,0,none⟩),.agg #[.int .i64 off,.string s,.bool fin],.func (.func 335) #[] #[.pointer (some ⟨w.heap.size + 2,0,none⟩),.pointer (some ⟨w.heap.size + 3,0,none⟩)],.int .i64 i,.int .i64 k,.pointer (some ⟨b,0,none⟩),.pointer (some ⟨b,0,none⟩),.pointer (some ⟨b,1,none⟩),.slice (some ⟨g1,0,none⟩) R.bs.length R.bs.length,.int .i64 k,.pointer (some ⟨b,0,none⟩),.pointer (some ⟨b,0,none⟩),.pointer (some ⟨b,2,none⟩),.slice (some ⟨g2,0,none⟩) R.bs.length R.bs.length,.int .i64 k,.pointer (some ⟨w.heap.size + 1,1,none⟩),.string s,.int .i64 i,.int .u8 ((s[i]'hi).toNat : Int),.pointer (some ⟨g1,k,none⟩),.pointer (some ⟨g2,k,none⟩)]) rfl (by kernel_rfl) rfl (by simp)
   (fun i d _ h=>by have:=slotH_is h;omega) (fun i j d _ _ h1 h2=>by have:=slotH_is h1;have:=slotH_is h2;omega) (fun j h=>slotH_cov j h) rfl rfl (by decide) (by decide) (by decide) W00 ?_ (by kernel_rfl) ?_
  ·rintro j o hj ho a w1 d1 d2 hW ⟨hold,hdep⟩
   have c0:=at_whole hW.q0 0 rfl
   have c1:=at_whole hW.q1 1 rfl
   have y1:=at_whole hW.q2 1 rfl
   have y2:=at_whole hW.q2 2 rfl
   have f1 : w1.cell? ⟨g1,k,none⟩ = some (.int .u8 (gd (if d1 then L1.set k ((s[i]'hi).toNat : Int) else L1) k)):=at_whole hW.q3 k (by cases d1 <;> simp [gd,kl1])
   have f2 : w1.cell? ⟨g2,k,none⟩ = some (.bool (hg (if d2 then L2.set k true else L2) k)):=at_whole hW.q4 k (by cases d2 <;> simp [hg,kl2])
   have z1:=frozen_of_row w1 g1 k _ 5 hW.q3
   have z2:=frozen_of_row w1 g2 k _ 4 hW.q4
   simp only [Rb.cells,List.getElem_toArray,List.getElem_cons_zero,List.getElem_cons_succ] at c0 c1 y1 y2
   generalize gd (if d1 then L1.set k ((s[i]'hi).toNat : Int) else L1) k = v1 at f1
   generalize hg (if d2 then L2.set k true else L2) k = v2 at f2
   have S1:=Lib.hid (hW.st1 hnn l1)
   have S2:=Lib.hid (hW.st2 hnn l2)
   clear hW
   have o2:=hold 2 (by decide)
   have o3:=hold 3 (by decide)
   have o4:=hold 4 (by decide)
   have o5:=hold 5 (by decide)
   simp at o2 o3 o4 o5
   have hjj : j = 0 ∨ j = 1 ∨ j = 2 ∨ j = 3 ∨ j = 4 ∨ j = 5 ∨ j = 6 ∨ j = 7 ∨ j = 8 ∨ j = 9 ∨ j = 10 ∨ j = 11 ∨ j = 12 ∨ j = 13 ∨ j = 14 ∨ j = 15 ∨ j = 16 ∨ j = 17:=by omega
   rcases hjj with rfl | rfl | rfl | rfl | rfl | rfl | rfl | rfl | rfl | rfl | rfl | rfl | rfl | rfl | rfl | rfl | rfl | rfl
   all_goals (cases ho;simp [Region.binds,slotH] at hdep;refine ⟨rfl,rfl,fun _ hf=>absurd hf (by simp [Oper.about]),?_⟩)
   all_goals first | exact .inr (.inr ⟨_,rfl,(by simp [go_sem,Act.eval,hdep,o2,o3,o4,o5,c0,c1,y1,y2,i0,i1,i2,i3];done)⟩) | exact .inr (.inr ⟨_,rfl,(by simp [go_sem,Act.eval];done)⟩) | exact .inl ⟨rfl,_,(by simp [go_sem,Act.eval,hdep,f1,z1];done),S1.out⟩ | exact .inr (.inl ⟨rfl,_,(by simp [go_sem,Act.eval,hdep,f2,z2];done),S2.out⟩)
  ·rintro w1 hW
   have G:=Lib.hid hW
   clear hW
   gi_wp2
   obtain ⟨q0,q1,q2,q3,q4,q5,q6,q7⟩:=G.out
   simp only [if_true] at q3 q4
   refine ⟨q6.from _,q7,⟨⟨q0,q1,q2,?_,?_⟩,q5⟩⟩
   ·rw [q3,List.map_append,List.map_cons,List.map_nil,AB.out,BG.out]
   ·rw [q4,List.map_append,List.map_cons,List.map_nil,AH.out]
 case done=>
  rintro D ys W hD hys ⟨⟨_,_,q2,q3,q4⟩,q5⟩ hK
  have hh:=hold_all (R.at_ : Int) (off : Int) (bytesOf s) s.size R.bs R.hs HT.out.hl
  rw [hys,hh.1] at q3
  rw [hys,hh.2] at q4
  have H:=Lib.hid (And.intro q2 (And.intro q3 (And.intro q4 (And.intro q5 hK))))
  clear q2 q3 q4 q5 hK hys hh
  gi_wp2
  refine ⟨by simp,.inl ⟨_,_,rfl,run_takeDeferred H.out.2.2.2.2,?_⟩⟩
  have hp : ∀ j,j ≠ D → (W.putObj D (.deferred none)).heap[j]? = W.heap[j]?:=fun j hj=>World.putObj_heap_other (w:=W) (o:=.deferred none) hj
  refine ⟨.tuple #[],by simp [results,Tryz.f305,go_sem],rfl,⟨H.out.2.2.2.1.os,H.out.2.2.2.1.tape,H.out.2.2.2.1.output,by simpa using H.out.2.2.2.1.size,fun j hj h1 h2 h3=>(hp j (by omega)).trans (H.out.2.2.2.1.block j hj h1 h2 h3)⟩,⟨?_,(hp g1 (by omega)).trans H.out.2.1,(hp g2 (by omega)).trans H.out.2.2.1,?_,?_⟩⟩
  ·rw [hp b (by omega),H.out.1]
   simp only [Rb.cells,putB_length]
  ·simp only [putB_length,putH_length];exact HT.out.hl
  ·simp only [putB_length];exact hsm
 case stop=>
  rintro D c pre W hD _ h hK
  exact h.elim
end
end Go.Proofs.YthckbmcmdcemkaaGreatDoor.rea
