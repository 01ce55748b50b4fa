/- Texts of this claim, one behind the other: Oa Ne Tc Td Te. -/
import Derived.Test.YthckbmcmdcemkaaGreatDoorBs41
import Derived.Test.YthckbmcmdcemkaaGreatDoorBs24
import Derived.Deep.LoopGhost
import Derived.Test.YthckbmcmdcemkaaGreatDoorBs37
import Derived.Test.YthckbmcmdcemkaaGreatDoorBs38
import Derived.Test.YthckbmcmdcemkaaGreatDoorBs40
set_option maxRecDepth 100000
set_option maxHeartbeats 16000000
set_option linter.unusedSimpArgs false
set_option linter.unusedVariables false
namespace Go.Proofs.YthckbmcmdcemkaaGreatDoor.stm
section
open Go.RowKit
def crL (cl : Bool) (psd : Int) (sd b : Nat) : List StA → Nat → List (StA × Strm) → List (StA × Strm)
 | [],_,l=>l
 | xa :: t,j,l=>crL cl psd sd b t (j + 1) (insS (xa,newStrm cl psd sd (4 * j + b)) l)
theorem crL_snoc {cl : Bool} {psd : Int} {sd b : Nat} {xa : StA} : ∀ {xs : List StA} {j : Nat} {l : List (StA × Strm)},crL cl psd sd b (xs ++ [xa]) j l = insS (xa,newStrm cl psd sd (4 * (j + xs.length) + b)) (crL cl psd sd b xs j l)
 | [],j,l=>rfl
 | x :: t,j,l=>by
  simp only [List.cons_append,crL,List.length_cons]
  rw [crL_snoc,show j + 1 + t.length = j + (t.length + 1) by omega]
theorem mem_crL {cl : Bool} {psd : Int} {sd b : Nat} {e : StA × Strm} : ∀ {xs : List StA} {j : Nat} {l : List (StA × Strm)},e ∈ crL cl psd sd b xs j l → e ∈ l ∨ ∃ i,j ≤ i ∧ i < j + xs.length ∧ e.2 = newStrm cl psd sd (4 * i + b)
 | [],j,l=>fun h=>.inl h
 | x :: t,j,l=>fun h=>by
  rcases mem_crL (xs:=t) h with h | ⟨i,h1,h2,h3⟩
  ·rcases mem_insS.1 h with rfl | h
   ·exact .inr ⟨j,by omega,by simp,rfl⟩
   ·exact .inl h
  ·exact .inr ⟨i,by omega,by simp;omega,h3⟩
theorem length_crL {cl : Bool} {psd : Int} {sd b : Nat} : ∀ {xs : List StA} {j : Nat} {l : List (StA × Strm)},(crL cl psd sd b xs j l).length = l.length + xs.length
 | [],j,l=>rfl
 | x :: t,j,l=>by rw [crL,length_crL,length_insS,List.length_cons];omega
def fndP (l : List (StA × Strm)) (id : Nat) : Value:=match l.find? (fun e=>e.2.id == id) with | some e=>ptr e.1.xb | none=>.pointer none
section
variable {W w : World} {H : Nat → Option Obj} {a : SetA} {s : SetS}
theorem SetIn.fnd (hs : SetIn H a s) (hm : Mem W w H) (id : Nat) (hid : id < 4611686018427387904) : (Instr.lookup 109 (.map (some a.M)) (.int .i64 id) false).run Tryz.prog w = .ok (fndP s.ss id) w:=by
 unfold fndP
 cases h : s.ss.find? (fun e=>e.2.id == id) with
 | some e=>
  have h1:=List.find?_some h
  have h2:=List.mem_of_find?_eq_some h
  simp only [beq_iff_eq] at h1
  subst h1
  exact hs.look hm (xa:=e.1) (x:=e.2) h2
 | none=>
  refine hs.look_no hm (fun e he hc=>?_) (idWf (by omega))
  have:=List.find?_eq_none.1 h e he
  simp at this
  omega
theorem concerned_new0 (hs : SetIn H a s) (hm : Mem W w H) (id : Nat) (hid : id < 1152921504606846976) (snd : Bool) (hk : kindN id = 0) (hlc : isLoc s.cl id = false) (m : Nat) (hmo : s.g0.acc = m) (hi : (id : Int) / 4 < s.g0.gr + s.g0.fg) (hb : -9223372036854775808 ≤ s.g0.gr + s.g0.fg ∧ s.g0.gr + s.g0.fg ≤ 800000)
  (hp0 : 0 ≤ s.peer.sdata) (hp1 : s.peer.sdata ≤ 1073741824) (sd : Nat) (hl : s.loc.sdata = sd) (hl2 : sd ≤ 8192) (hmb : m ≤ 800000) (hfree : ∀ e ∈ s.ss,e.2.id % 4 = id % 4 → e.2.id / 4 < m) (hlen : s.ss.length + (id / 4 + 1 - m) ≤ 900000) :
  Calls Tryz.prog 71 #[ptr a.sb,.int .i64 id,.bool snd] w fun e w'=>∃ xs : List StA,xs.length = id / 4 + 1 - m ∧ e = .returned (.tuple #[fndP (crL s.cl s.peer.sdata sd (id % 4) xs m s.ss) id,.int .i64 0]) ∧ ∃ H',To W w' H H' (s.foot a) (SetS.foot { s with ss:=crL s.cl s.peer.sdata sd (id % 4) xs m s.ss,g0:={ s.g0 with acc:=(m + xs.length : Nat) } } a) ∧ SetIn H' a { s with ss:=crL s.cl s.peer.sdata sd (id % 4) xs m s.ss,g0:={ s.g0 with acc:=(m + xs.length : Nat) } }:=by
 have c0 : w.cell? ⟨a.sb,0,none⟩ = some (.bool s.cl):=at_whole' (hm.at hs.sb) rfl
 have c17 : w.cell? ⟨a.sb,17,none⟩ = some (.int .i64 s.g0.gr):=at_whole' (hm.at hs.sb) rfl
 have c18 : w.cell? ⟨a.sb,18,none⟩ = some (.int .i64 s.g0.fg):=at_whole' (hm.at hs.sb) rfl
 have hw : IntKind.i64.wrap (s.g0.gr + s.g0.fg) = s.g0.gr + s.g0.fg:=IntWalk.i64_in _ (by omega)
 have KD:=Lib.hid (fun wx=>kind_any id (by omega) wx)
 have LC:=Lib.hid (fun wx (hc : wx.cell? ⟨a.sb,0,none⟩ = some (.bool s.cl))=>local_any a.sb id s.cl (by omega) wx hc)
 have C0:=Lib.hid c0
 obtain ⟨ix,hix⟩ : ∃ ix : Nat,id / 4 = ix:=⟨_,rfl⟩
 obtain ⟨b,hbb⟩ : ∃ b : Nat,id % 4 = b:=⟨_,rfl⟩
 have hixc : (id : Int) / 4 = (ix : Int):=by omega
 have d : decide (s.g0.gr + s.g0.fg ≤ (ix : Int)) = false:=decide_eq_false (by omega)
 have ea : bits .and .i64 (id : Int) 3 = (b : Int):=by rw [and3_i64 id (by omega),hbb]
 have hb4 : b < 4:=by omega
 have hixb : ix < 800000:=by omega
 have SR0 : Hid (∀ n,SetIn H a { s with ss:=crL s.cl s.peer.sdata sd b [] m s.ss,g0:={ s.g0 with acc:=(m : Nat) } } ∧ To W (w.drewN n) H H (s.foot a) (SetS.foot { s with ss:=crL s.cl s.peer.sdata sd b [] m s.ss,g0:={ s.g0 with acc:=(m : Nat) } } a)):=Lib.hid (fun n=>by
  have e : ({ s with ss:=crL s.cl s.peer.sdata sd b [] m s.ss,g0:={ s.g0 with acc:=(m : Nat) } } : SetS) = s:=by rw [← hmo];rfl
  rw [e];exact ⟨hs,(To.refl hm _).same (belowN (Below.refl _ w) n)⟩)
 rw [hbb] at hfree ⊢
 rw [hix] at hlen ⊢
 rw [hk] at KD
 rw [hlc] at LC
 have HF:=Lib.hid hfree
 have HP:=Lib.hid (And.intro hp0 (And.intro hp1 (And.intro hl hl2)))
 have HC:=Lib.hid (And.intro hlc hk)
 have HMX:=Lib.hid (And.intro hix hbb)
 clear hs hm hk hlc c0 hi hb hmo hfree hp0 hp1 hl hl2
 simp only [show ((0 : Nat) : Int) = 0 from rfl] at KD
 unfold ptr
 go_enter Tryz.func71,Tryz.ntmps71
 go_upto_region 1 with fail
 go_quiet ((go_at_call 119;exact Calls.quiet_of_same ((KD.out _).mono fun _ _ h=>⟨h.1,h.2.symm⟩)))
 generalize nq = n1
 go_upto_region 7 with (first | (go_at_call 73;refine (LC.out _ (by exact C0.out)).mono ?_;rintro e wv ⟨rfl,rfl⟩) | (go_at_call 119;refine (KD.out _).mono ?_;rintro e wv ⟨rfl,rfl⟩))
 go_quiet (fail)
 go_upto_region 9 with (first | (go_at_call 73;refine (LC.out _ (by exact C0.out)).mono ?_;rintro e wv ⟨rfl,rfl⟩) | (go_at_call 119;refine (KD.out _).mono ?_;rintro e wv ⟨rfl,rfl⟩))
 simp only [drewN2]
 have SR:=Lib.hid (SR0.out (n1 + nq))
 generalize hw0 : World.drewN w _ = w0 at SR ⊢
 clear hw0 SR0
 clear c17 c18 d hw KD LC C0
 go_loopg [] (ix + 1 - m) (fun left wr=>∃ (xs : List StA) (Hx : Nat → Option Obj),xs.length + left = ix + 1 - m ∧ Hid (SetIn Hx a { s with ss:=crL s.cl s.peer.sdata sd b xs m s.ss,g0:={ s.g0 with acc:=(m + xs.length : Nat) } } ∧ To W wr H Hx (s.foot a) (SetS.foot { s with ss:=crL s.cl s.peer.sdata sd b xs m s.ss,g0:={ s.g0 with acc:=(m + xs.length : Nat) } } a)))
 case atStart=>exact ⟨[],H,by simp,Lib.hid ⟨by simpa using SR.out.1,by simpa using SR.out.2⟩⟩
 case round=>
  obtain ⟨xs,Hx,hle,R⟩:=hrel
  have ca : wr.cell? ⟨a.sb,15,none⟩ = some (.int .i64 (m + xs.length : Nat)):=at_whole' (R.out.2.mem.at R.out.1.sb) rfl
  have cM:=R.out.1.c13 R.out.2.mem
  by_cases hlt : m + xs.length ≤ ix
  ·have e1 : bits .or .i64 (((m + xs.length : Nat) : Int) * 4) (b : Int) = ((4 * (m + xs.length) + b : Nat) : Int):=by
    rw [Int.mul_comm];exact or4_i64 (m + xs.length) b hb4 (by omega)
   have CR:=Lib.hid (create_any a _ Hx W wr (4 * (m + xs.length) + b) R.out.2.mem R.out.1 (by omega) HP.out.1 HP.out.2.1 sd HP.out.2.2.1 HP.out.2.2.2 (fun e he hc=>by
    rcases mem_crL he with he | ⟨i,h1,h2,h3⟩
    ·have:=HF.out e he (by omega);omega
    ·rw [h3] at hc;simp only [newStrm] at hc;omega) (by show (crL s.cl s.peer.sdata sd b xs m s.ss).length ≤ 900000;rw [length_crL];omega))
   unfold ptr at CR
   generalize hqq : m + xs.length = q at *
   have HQ:=Lib.hid hqq
   clear hqq
   go_upto_region 10 with fail
   go_wp2_with (go_at_call 57;refine CR.out.mono ?_;rintro e w5 ⟨rfl,H5,xa,T5,S5⟩;have cb:=at_whole' (T5.mem.at S5.sb) (show ((SetS.cells _ a)[15]? = some (.int .i64 (q : Int))) from rfl);have fb:=frozen_whole (T5.mem.at S5.sb) 15;have R5:=Lib.hid (And.intro T5 S5);clear T5 S5)
   have hsn : crL s.cl s.peer.sdata sd b (xs ++ [xa]) m s.ss = insS (xa,newStrm s.cl s.peer.sdata sd (4 * q + b)) (crL s.cl s.peer.sdata sd b xs m s.ss):=by rw [crL_snoc,HQ.out]
   have hcq : ((m + (xs ++ [xa]).length : Nat) : Int) = (q : Int) + 1:=by have:=HQ.out;simp;omega
   obtain ⟨H6,S6,T6⟩:=R5.out.2.set R5.out.1.mem (s':={ s with ss:=crL s.cl s.peer.sdata sd b (xs ++ [xa]) m s.ss,g0:={ s.g0 with acc:=(m + (xs ++ [xa]).length : Nat) } }) 15 (.int .i64 ((q : Int) + 1)) (by rw [hcq];rfl) hsn rfl rfl
   go_roundg (gk - 1)
   case measure=>have:=HQ.out;omega
   case rel=>exact ⟨xs ++ [xa],H6,by have:=HQ.out;simp;omega,Lib.hid ⟨S6,(R.out.2.trans R5.out.1).trans T6⟩⟩
  ·have hxl : xs.length = ix + 1 - m:=by omega
   have FN:=R.out.1.fnd R.out.2.mem id (by omega)
   have HX:=Lib.hid hxl
   obtain ⟨q,hq⟩ : ∃ q,m + xs.length = q:=⟨_,rfl⟩
   rw [hq] at ca
   have d2 : ((q : Int) ≤ (ix : Int)) = False:=eq_false (by omega)
   clear hxl hlt hle hq
   change _ = Result.ok (fndP (crL s.cl s.peer.sdata sd b xs m s.ss) id) wr at FN
   generalize hfp : fndP (crL s.cl s.peer.sdata sd b xs m s.ss) id = fp at FN
   have HFP:=Lib.hid hfp
   clear hfp
   go_wp2
   go_returns
   exact ⟨xs,HX.out,by rw [HFP.out];rfl,Hx,R.out.2,R.out.1⟩
theorem concerned_new1 (hs : SetIn H a s) (hm : Mem W w H) (id : Nat) (hid : id < 1152921504606846976) (hk : kindN id = 1) (hlc : isLoc s.cl id = false) (m : Nat) (hmo : s.g1.acc = m) (hi : (id : Int) / 4 < s.g1.gr + s.g1.fg) (hb : -9223372036854775808 ≤ s.g1.gr + s.g1.fg ∧ s.g1.gr + s.g1.fg ≤ 800000)
  (hp0 : 0 ≤ s.peer.sdata) (hp1 : s.peer.sdata ≤ 1073741824) (sd : Nat) (hl : s.loc.sdata = sd) (hl2 : sd ≤ 8192) (hmb : m ≤ 800000) (hfree : ∀ e ∈ s.ss,e.2.id % 4 = id % 4 → e.2.id / 4 < m) (hlen : s.ss.length + (id / 4 + 1 - m) ≤ 900000) :
  Calls Tryz.prog 71 #[ptr a.sb,.int .i64 id,.bool false] w fun e w'=>∃ xs : List StA,xs.length = id / 4 + 1 - m ∧ e = .returned (.tuple #[fndP (crL s.cl s.peer.sdata sd (id % 4) xs m s.ss) id,.int .i64 0]) ∧ ∃ H',To W w' H H' (s.foot a) (SetS.foot { s with ss:=crL s.cl s.peer.sdata sd (id % 4) xs m s.ss,g1:={ s.g1 with acc:=(m + xs.length : Nat) } } a) ∧ SetIn H' a { s with ss:=crL s.cl s.peer.sdata sd (id % 4) xs m s.ss,g1:={ s.g1 with acc:=(m + xs.length : Nat) } }:=by
 have c0 : w.cell? ⟨a.sb,0,none⟩ = some (.bool s.cl):=at_whole' (hm.at hs.sb) rfl
 have c17 : w.cell? ⟨a.sb,25,none⟩ = some (.int .i64 s.g1.gr):=at_whole' (hm.at hs.sb) rfl
 have c18 : w.cell? ⟨a.sb,26,none⟩ = some (.int .i64 s.g1.fg):=at_whole' (hm.at hs.sb) rfl
 have hw : IntKind.i64.wrap (s.g1.gr + s.g1.fg) = s.g1.gr + s.g1.fg:=IntWalk.i64_in _ (by omega)
 have KD:=Lib.hid (fun wx=>kind_any id (by omega) wx)
 have LC:=Lib.hid (fun wx (hc : wx.cell? ⟨a.sb,0,none⟩ = some (.bool s.cl))=>local_any a.sb id s.cl (by omega) wx hc)
 have C0:=Lib.hid c0
 obtain ⟨ix,hix⟩ : ∃ ix : Nat,id / 4 = ix:=⟨_,rfl⟩
 obtain ⟨b,hbb⟩ : ∃ b : Nat,id % 4 = b:=⟨_,rfl⟩
 have hixc : (id : Int) / 4 = (ix : Int):=by omega
 have d : decide (s.g1.gr + s.g1.fg ≤ (ix : Int)) = false:=decide_eq_false (by omega)
 have ea : bits .and .i64 (id : Int) 3 = (b : Int):=by rw [and3_i64 id (by omega),hbb]
 have hb4 : b < 4:=by omega
 have hixb : ix < 800000:=by omega
 have SR0 : Hid (∀ n,SetIn H a { s with ss:=crL s.cl s.peer.sdata sd b [] m s.ss,g1:={ s.g1 with acc:=(m : Nat) } } ∧ To W (w.drewN n) H H (s.foot a) (SetS.foot { s with ss:=crL s.cl s.peer.sdata sd b [] m s.ss,g1:={ s.g1 with acc:=(m : Nat) } } a)):=Lib.hid (fun n=>by
  have e : ({ s with ss:=crL s.cl s.peer.sdata sd b [] m s.ss,g1:={ s.g1 with acc:=(m : Nat) } } : SetS) = s:=by rw [← hmo];rfl
  rw [e];exact ⟨hs,(To.refl hm _).same (belowN (Below.refl _ w) n)⟩)
 rw [hbb] at hfree ⊢
 rw [hix] at hlen ⊢
 rw [hk] at KD
 rw [hlc] at LC
 have HF:=Lib.hid hfree
 have HP:=Lib.hid (And.intro hp0 (And.intro hp1 (And.intro hl hl2)))
 have HC:=Lib.hid (And.intro hlc hk)
 have HMX:=Lib.hid (And.intro hix hbb)
 clear hs hm hk hlc c0 hi hb hmo hfree hp0 hp1 hl hl2
 simp only [show ((1 : Nat) : Int) = 1 from rfl] at KD
 unfold ptr
 go_enter Tryz.func71,Tryz.ntmps71
 go_upto_region 1 with fail
 go_quiet ((go_at_call 119;exact Calls.quiet_of_same ((KD.out _).mono fun _ _ h=>⟨h.1,h.2.symm⟩)))
 generalize nq = n1
 go_upto_region 7 with (first | (go_at_call 73;refine (LC.out _ (by exact C0.out)).mono ?_;rintro e wv ⟨rfl,rfl⟩) | (go_at_call 119;refine (KD.out _).mono ?_;rintro e wv ⟨rfl,rfl⟩))
 go_quiet (fail)
 go_upto_region 9 with (first | (go_at_call 73;refine (LC.out _ (by exact C0.out)).mono ?_;rintro e wv ⟨rfl,rfl⟩) | (go_at_call 119;refine (KD.out _).mono ?_;rintro e wv ⟨rfl,rfl⟩))
 simp only [drewN2]
 have SR:=Lib.hid (SR0.out (n1 + nq))
 generalize hw0 : World.drewN w _ = w0 at SR ⊢
 clear hw0 SR0
 clear c17 c18 d hw KD LC C0
 go_loopg [] (ix + 1 - m) (fun left wr=>∃ (xs : List StA) (Hx : Nat → Option Obj),xs.length + left = ix + 1 - m ∧ Hid (SetIn Hx a { s with ss:=crL s.cl s.peer.sdata sd b xs m s.ss,g1:={ s.g1 with acc:=(m + xs.length : Nat) } } ∧ To W wr H Hx (s.foot a) (SetS.foot { s with ss:=crL s.cl s.peer.sdata sd b xs m s.ss,g1:={ s.g1 with acc:=(m + xs.length : Nat) } } a)))
 case atStart=>exact ⟨[],H,by simp,Lib.hid ⟨by simpa using SR.out.1,by simpa using SR.out.2⟩⟩
 case round=>
  obtain ⟨xs,Hx,hle,R⟩:=hrel
  have ca : wr.cell? ⟨a.sb,23,none⟩ = some (.int .i64 (m + xs.length : Nat)):=at_whole' (R.out.2.mem.at R.out.1.sb) rfl
  have cM:=R.out.1.c13 R.out.2.mem
  by_cases hlt : m + xs.length ≤ ix
  ·have e1 : bits .or .i64 (((m + xs.length : Nat) : Int) * 4) (b : Int) = ((4 * (m + xs.length) + b : Nat) : Int):=by
    rw [Int.mul_comm];exact or4_i64 (m + xs.length) b hb4 (by omega)
   have CR:=Lib.hid (create_any a _ Hx W wr (4 * (m + xs.length) + b) R.out.2.mem R.out.1 (by omega) HP.out.1 HP.out.2.1 sd HP.out.2.2.1 HP.out.2.2.2 (fun e he hc=>by
    rcases mem_crL he with he | ⟨i,h1,h2,h3⟩
    ·have:=HF.out e he (by omega);omega
    ·rw [h3] at hc;simp only [newStrm] at hc;omega) (by show (crL s.cl s.peer.sdata sd b xs m s.ss).length ≤ 900000;rw [length_crL];omega))
   unfold ptr at CR
   generalize hqq : m + xs.length = q at *
   have HQ:=Lib.hid hqq
   clear hqq
   go_upto_region 10 with fail
   go_wp2_with (go_at_call 57;refine CR.out.mono ?_;rintro e w5 ⟨rfl,H5,xa,T5,S5⟩;have cb:=at_whole' (T5.mem.at S5.sb) (show ((SetS.cells _ a)[23]? = some (.int .i64 (q : Int))) from rfl);have fb:=frozen_whole (T5.mem.at S5.sb) 23;have R5:=Lib.hid (And.intro T5 S5);clear T5 S5)
   have hsn : crL s.cl s.peer.sdata sd b (xs ++ [xa]) m s.ss = insS (xa,newStrm s.cl s.peer.sdata sd (4 * q + b)) (crL s.cl s.peer.sdata sd b xs m s.ss):=by rw [crL_snoc,HQ.out]
   have hcq : ((m + (xs ++ [xa]).length : Nat) : Int) = (q : Int) + 1:=by have:=HQ.out;simp;omega
   obtain ⟨H6,S6,T6⟩:=R5.out.2.set R5.out.1.mem (s':={ s with ss:=crL s.cl s.peer.sdata sd b (xs ++ [xa]) m s.ss,g1:={ s.g1 with acc:=(m + (xs ++ [xa]).length : Nat) } }) 23 (.int .i64 ((q : Int) + 1)) (by rw [hcq];rfl) hsn rfl rfl
   go_roundg (gk - 1)
   case measure=>have:=HQ.out;omega
   case rel=>exact ⟨xs ++ [xa],H6,by have:=HQ.out;simp;omega,Lib.hid ⟨S6,(R.out.2.trans R5.out.1).trans T6⟩⟩
  ·have hxl : xs.length = ix + 1 - m:=by omega
   have FN:=R.out.1.fnd R.out.2.mem id (by omega)
   have HX:=Lib.hid hxl
   obtain ⟨q,hq⟩ : ∃ q,m + xs.length = q:=⟨_,rfl⟩
   rw [hq] at ca
   have d2 : ((q : Int) ≤ (ix : Int)) = False:=eq_false (by omega)
   clear hxl hlt hle hq
   change _ = Result.ok (fndP (crL s.cl s.peer.sdata sd b xs m s.ss) id) wr at FN
   generalize hfp : fndP (crL s.cl s.peer.sdata sd b xs m s.ss) id = fp at FN
   have HFP:=Lib.hid hfp
   clear hfp
   go_wp2
   go_returns
   exact ⟨xs,HX.out,by rw [HFP.out];rfl,Hx,R.out.2,R.out.1⟩
end
end
section
open Go.RowKit
section
variable {W w : World} {H : Nat → Option Obj} {a : SetA} {s : SetS}
theorem concerned_old0 (hs : SetIn H a s) (hm : Mem W w H) (id : Nat) (hid : id < 9223372036854775808) (snd : Bool) {xa : StA} {x : Strm} (he : (xa,x) ∈ s.ss) (hid2 : x.id = id) (hk : kindN id = 0) (hlc : isLoc s.cl id = true) (hi : (id : Int) / 4 < s.g0.opn) :
  Calls Tryz.prog 71 #[ptr a.sb,.int .i64 id,.bool snd] w fun e w'=>e = .returned (.tuple #[ptr xa.xb,.int .i64 0]) ∧ ∃ n,w' = w.drewN n:=by
 have c0 : w.cell? ⟨a.sb,0,none⟩ = some (.bool s.cl):=at_whole' (hm.at hs.sb) rfl
 have c14 : w.cell? ⟨a.sb,14,none⟩ = some (.int .i64 s.g0.opn):=at_whole' (hm.at hs.sb) rfl
 have hl:=fun n=>hs.look (hm.same (belowN (Below.refl _ w) n)) he
 have c13:=hs.c13 hm
 have KD:=Lib.hid (fun wx=>kind_any id hid wx)
 have LC:=Lib.hid (fun wx (hc : wx.cell? ⟨a.sb,0,none⟩ = some (.bool s.cl))=>local_any a.sb id s.cl hid wx hc)
 rw [hk] at KD
 rw [hlc] at LC
 have C0:=Lib.hid c0
 have d : decide (s.g0.opn ≤ (id : Int) / 4) = false:=decide_eq_false (by omega)
 subst hid2
 clear hs hm hk hlc c0 hi he
 simp only [show ((0 : Nat) : Int) = 0 from rfl] at KD
 unfold ptr
 go_enter Tryz.func71,Tryz.ntmps71
 go_upto_region 1 with fail
 go_quiet ((go_at_call 119;exact Calls.quiet_of_same ((KD.out _).mono fun _ _ h=>⟨h.1,h.2.symm⟩)))
 go_upto_region 9 with (first | (go_at_call 73;refine (LC.out _ (by exact C0.out)).mono ?_;rintro e wv ⟨rfl,rfl⟩) | (go_at_call 119;refine (KD.out _).mono ?_;rintro e wv ⟨rfl,rfl⟩))
 go_quiet (fail)
 go_wp2_with fail
 refine wp_loop_rounds 1 ?_
 rw [rounds_succ]
 go_wp2_with fail
 go_returns
 exact ⟨rfl,_,rfl⟩
end
end
section
open Go.RowKit Go.Maps
section
variable {W w w' : World} {H H' : Nat → Option Obj} {a : SetA} {s s' : SetS} {p p2 : SetP} {R : List (Nat × Obj)}
def CnOk (W : World) (a : SetA) (p p2 : SetP) (id : Nat) (snd : Bool) : Prop:=∀ s w1 H1,s.pl = p → Mem W w1 H1 → SetIn H1 a s →
 Calls Tryz.prog 71 #[ptr a.sb,.int .i64 id,.bool snd] w1 fun e w2=>∃ xb H2 s2,e = .returned (.tuple #[ptr xb,.int .i64 0]) ∧ To W w2 H1 H2 (s.foot a) (s2.foot a) ∧ SetIn H2 a s2 ∧ s2.pl = p2 ∧ fndP s2.ss id = ptr xb
theorem fndP_of {l : List (StA × Strm)} (hu : l.Pairwise fun e f=>e.2.id < f.2.id) {l1 l2 : List (StA × Strm)} {xa : StA} {x : Strm} (hl : l = l1 ++ (xa,x) :: l2) : fndP l x.id = ptr xa.xb:=by
 unfold fndP
 have : l.find? (fun e=>e.2.id == x.id) = some (xa,x):=by
  rw [hl,List.find?_append]
  have h1 : l1.find? (fun e=>e.2.id == x.id) = none:=by
   rw [List.find?_eq_none]
   intro e he
   rw [hl] at hu
   have:=(List.pairwise_append.mp hu).2.2 e he (xa,x) (by simp)
   simp at this ⊢
   omega
  rw [h1]
  simp
 rw [this]
theorem ptr_inj {b c : Nat} (h : ptr b = ptr c) : b = c:=by
 unfold ptr at h
 injection h with h
 injection h with h
 injection h
theorem xb_of (S : SetIn H a s) {l1 l2 : List (StA × Strm)} {xa : StA} {x : Strm} (hl : s.ss = l1 ++ (xa,x) :: l2) {xb : Nat} (hf : fndP s.ss x.id = ptr xb) : xa.xb = xb:=by
 rw [fndP_of S.li.up hl] at hf
 exact ptr_inj hf
theorem cn_old0 (id : Nat) (hid : id < 9223372036854775808) (snd : Bool) {q1 q2 : List Strm} {x : Strm} (hq : p.ss = q1 ++ x :: q2) (hid2 : x.id = id) (hk : kindN id = 0) (hlc : isLoc p.cl id = true) (hi : (id : Int) / 4 < p.g0.opn) : CnOk W a p p id snd:=by
 intro s w1 H1 hp hm hs
 subst hp
 obtain ⟨l1,xa,l2,hl,e1,e2⟩:=pl_split (l:=s.ss) hq
 refine (concerned_old0 hs hm id hid snd (xa:=xa) (x:=x) (by rw [hl];simp) hid2 hk hlc hi).mono fun e w2 hh=>?_
 obtain ⟨rfl,n,rfl⟩:=hh
 exact ⟨xa.xb,H1,s,rfl,(To.refl hm _).same (belowN (Below.refl _ w1) n),hs,rfl,hid2 ▸ fndP_of hs.li.up hl⟩
def crP (cl : Bool) (psd : Int) (sd b : Nat) : Nat → Nat → List Strm → List Strm
 | 0,_,l=>l
 | n + 1,j,l=>crP cl psd sd b n (j + 1) (insP (newStrm cl psd sd (4 * j + b)) l)
theorem pl_cr (cl : Bool) (psd : Int) (sd b : Nat) : ∀ (xs : List StA) (j : Nat) (l : List (StA × Strm)),(crL cl psd sd b xs j l).map (·.2) = crP cl psd sd b xs.length j (l.map (·.2))
 | [],_,_=>rfl
 | x :: t,j,l=>by
  unfold crL
  rw [pl_cr cl psd sd b t,pl_ins]
  rfl
theorem fr_pl {m id : Nat} (h : ∀ e ∈ s.pl.ss,e.id % 4 = id % 4 → e.id / 4 < m) : ∀ e ∈ s.ss,e.2.id % 4 = id % 4 → e.2.id / 4 < m:=fun e he=>h e.2 (List.mem_map.mpr ⟨e,he,rfl⟩)
theorem cn_new1 (id : Nat) (hid : id < 1152921504606846976) (hk : kindN id = 1) (hlc : isLoc p.cl id = false) (m : Nat) (hmo : p.g1.acc = m) (hi : (id : Int) / 4 < p.g1.gr + p.g1.fg) (hb : -9223372036854775808 ≤ p.g1.gr + p.g1.fg ∧ p.g1.gr + p.g1.fg ≤ 800000)
  (hp0 : 0 ≤ p.peer.sdata) (hp1 : p.peer.sdata ≤ 1073741824) (sd : Nat) (hl : p.loc.sdata = sd) (hl2 : sd ≤ 8192) (hmb : m ≤ 800000) (hfree : ∀ e ∈ p.ss,e.id % 4 = id % 4 → e.id / 4 < m) (hlen : p.ss.length + (id / 4 + 1 - m) ≤ 900000)
  {q1 q2 : List Strm} {x : Strm} (hq : crP p.cl p.peer.sdata sd (id % 4) (id / 4 + 1 - m) m p.ss = q1 ++ x :: q2) (hx : x.id = id) :
  CnOk W a p { p with ss:=q1 ++ x :: q2,g1:={ p.g1 with acc:=(m + (id / 4 + 1 - m) : Nat) } } id false:=by
 intro s w1 H1 hp hm hs
 subst hp
 refine (concerned_new1 hs hm id hid hk hlc m hmo hi hb hp0 hp1 sd hl hl2 hmb (fr_pl hfree) (by simpa [SetS.pl] using hlen)).mono fun e w2 hh=>?_
 obtain ⟨xs,hxs,rfl,H2,T,S⟩:=hh
 have e1 : (crL s.cl s.peer.sdata sd (id % 4) xs m s.ss).map (·.2) = q1 ++ x :: q2:=by rw [pl_cr,hxs];exact hq
 obtain ⟨l1,xa,l2,hl',_,_⟩:=pl_split e1
 have e2:=fndP_of S.li.up hl'
 rw [hx] at e2
 refine ⟨xa.xb,H2,_,by rw [e2],T,S,?_,e2⟩
 unfold SetS.pl
 simp only [e1,hxs]
theorem mn_stop (h : Mn W w a p R) (f : Fr) (hv : frm.FrV f) (hty : f.ty = 5) {x : Strm} {o : OutP} {q1 q2 : List Strm} (hstr : f.str = x.id) (CN : CnOk W a p p2 x.id true) (hq : p2.ss = q1 ++ x :: q2) (ho : x.out = some o) (hg0 : p2.g0.Ok) (hg1 : p2.g1.Ok) :
  Calls Tryz.prog 24 #[ptr a.sb,f.val] w fun e w'=>e = .returned (.int .i64 0) ∧ Mn W w' a (stlP { p2 with ss:=q1 ++ { x with out:=some (stpO o f.code) } :: q2 } q1 q2 { x with out:=some (stpO o f.code) }) R:=by
 obtain ⟨H,s,hm,hs,rfl,hr⟩:=h
 refine (Receive_140 hs hm f hv (by rw [hty];decide) (by rw [hty];decide) (by rw [hty];rfl) (by rw [hty];rfl)
  (fun xb s2=>s2.pl = p2 ∧ fndP s2.ss x.id = ptr xb)
  (fun er s3 l1 l2 _ x3=>er = 0 ∧ s3.pl = { p2 with ss:=q1 ++ { x with out:=some (stpO o f.code) } :: q2 } ∧ l1.map (·.2) = q1 ∧ l2.map (·.2) = q2 ∧ x3 = { x with out:=some (stpO o f.code) })
  (fun w1 H1 hm1 hs1=>by rw [hstr];exact CN s w1 H1 rfl hm1 hs1) ?_).mono fun e w' hh=>?_
 ·rintro w2 H2 s2 xb ⟨rfl,hf⟩ hm2 hs2
  obtain ⟨l1,xa,l2,hl,e1,e2⟩:=pl_split (l:=s2.ss) hq
  have hxb:=xb_of hs2 hl hf
  subst hxb
  refine (onStop_any hs2 hm2 hl ho f).mono fun e w3 hh=>?_
  obtain ⟨rfl,H3,xa',hx',T,S⟩:=hh
  exact ⟨0,H3,_,l1,l2,xa',_,rfl,T,S,rfl,hx',hg0,hg1,rfl,by unfold SetS.pl;simp only [pl_set q1 q2 l1 l2 _ _ e1 e2],e1,e2,rfl⟩
 ·obtain ⟨er,H4,s3,l1,l2,xa3,x3,rfl,⟨rfl,h1,rfl,rfl,rfl⟩,hl,T,S⟩:=hh
  exact ⟨rfl,Mn.to hr T S (by rw [pl_stl,h1])⟩
def excP (p : SetP) (i : InP) (e : Int) : Bool:=decide (i.wn.most < e) || decide (p.wn.most < p.tot + max (e - i.cn) 0)
def datEP (p : SetP) (i : InP) (f : Fr) : Int:=
 if i.wasR then (if decide (i.fl < datEnd f) || (f.fin && !decide (datEnd f = i.fl)) then 161 else 0)
 else if excP p i (datEnd f) then 150 else rea.putE i.R f.off.toNat f.s f.fin
def cntTP (p : SetP) (i : InP) (e : Int) : Int:=p.tot + (cntN i e - i.cn)
def cntSP (p : SetP) (i : InP) (e : Int) (L : List Strm) : SetP:={ p with ss:=L,tot:=cntTP p i e,wn:=p.wn.recH (cntTP p i e) }
def datSP (p : SetP) (i : InP) (f : Fr) (L : List Strm) : SetP:=if i.stp then { cntSP p i (datEnd f) L with wn:=(cntSP p i (datEnd f) L).wn.read (rdN (datI i f).R 8192) } else cntSP p i (datEnd f) L
theorem mn_data (h : Mn W w a p R) (f : Fr) (hv : frm.FrV f) (hty : f.ty = 8) {x : Strm} {i : InP} {q1 q2 : List Strm} (hstr : f.str = x.id) (CN : CnOk W a p p2 x.id false) (hq : p2.ss = q1 ++ x :: q2) (hi : x.inp = some i) (hg0 : p2.g0.Ok) (hg1 : p2.g1.Ok)
  (hf0 : 0 ≤ f.off) (hf1 : f.off + f.s.size ≤ 1099511627776) (hf2 : f.s.size ≤ 8192) (hc : 0 ≤ i.cn ∧ i.cn ≤ maxOff) (ht : 0 ≤ p2.tot ∧ p2.tot ≤ maxOff) (hat : i.R.at_ ≤ 1125899906842624)
  (hcw : i.cn ≤ i.wn.most) (htw : p2.tot ≤ p2.wn.most) (hroom : i.wn.most ≤ i.R.at_ + i.R.bs.length) {a0 a1 a2 a3 : Addr} (hE : rea.Errs W a0 a1 a2 a3) (hA : rea.Apt W a0 a1) (hwr : i.wasR = false) (hd : datEP p2 i f = 0) :
  Calls Tryz.prog 24 #[ptr a.sb,f.val] w fun e w'=>e = .returned (.int .i64 0) ∧ Mn W w' a (stlP (datSP p2 i f (q1 ++ { x with inp:=some (datI2 i f) } :: q2)) q1 q2 { x with inp:=some (datI2 i f) }) R:=by
 obtain ⟨H,s,hm,hs,rfl,hr⟩:=h
 refine (Receive_138 hs hm f hv (by rw [hty];decide) (by rw [hty];decide) (by rw [hty];rfl) (by rw [hty];rfl)
  (fun xb s2=>s2.pl = p2 ∧ fndP s2.ss x.id = ptr xb)
  (fun er s3 l1 l2 _ x3=>er = 0 ∧ s3.pl = datSP p2 i f (q1 ++ { x with inp:=some (datI2 i f) } :: q2) ∧ l1.map (·.2) = q1 ∧ l2.map (·.2) = q2 ∧ x3 = { x with inp:=some (datI2 i f) })
  (fun w1 H1 hm1 hs1=>by rw [hstr];exact CN s w1 H1 rfl hm1 hs1) ?_).mono fun e w' hh=>?_
 ·rintro w2 H2 s2 xb ⟨rfl,hf⟩ hm2 hs2
  obtain ⟨l1,xa,l2,hl,e1,e2⟩:=pl_split (l:=s2.ss) hq
  have hxb:=xb_of hs2 hl hf
  subst hxb
  refine (onData_yes hs2 hm2 hl hi f hf0 hf1 hf2 hc ht hat hcw htw hroom (hE.below hm2.below) (hA.below hm2.below) hwr hd).mono fun e w3 hh=>?_
  obtain ⟨rfl,H3,xa',hx',T,S⟩:=hh
  refine ⟨0,H3,_,l1,l2,xa',_,rfl,T,S,?_,hx',?_,?_,rfl,?_,e1,e2,rfl⟩
  ·unfold datS;split <;> rfl
  ·unfold datS;split <;> exact hg0
  ·unfold datS;split <;> exact hg1
  ·unfold datS datSP
   split
   ·unfold cntS cntSP cntT cntTP SetS.pl
    simp only [pl_set q1 q2 l1 l2 _ _ e1 e2]
   ·unfold cntS cntSP cntT cntTP SetS.pl
    simp only [pl_set q1 q2 l1 l2 _ _ e1 e2]
 ·obtain ⟨er,H4,s3,l1,l2,xa3,x3,rfl,⟨rfl,h1,rfl,rfl,rfl⟩,hl,T,S⟩:=hh
  exact ⟨rfl,Mn.to hr T S (by rw [pl_stl,h1])⟩
theorem mn_data_no (h : Mn W w a p R) (f : Fr) (hv : frm.FrV f) (hty : f.ty = 8) {x : Strm} {i : InP} {q1 q2 : List Strm} (hstr : f.str = x.id) (CN : CnOk W a p p2 x.id false) (hq : p2.ss = q1 ++ x :: q2) (hi : x.inp = some i) (hg0 : p2.g0.Ok) (hg1 : p2.g1.Ok)
  (hf0 : 0 ≤ f.off) (hf1 : f.off + f.s.size ≤ 1099511627776) (hf2 : f.s.size ≤ 8192) (hc : 0 ≤ i.cn ∧ i.cn ≤ maxOff) (ht : 0 ≤ p2.tot ∧ p2.tot ≤ maxOff) (hat : i.R.at_ ≤ 1125899906842624)
  {a0 a1 a2 a3 : Addr} (hE : rea.Errs W a0 a1 a2 a3) (hA : rea.Apt W a0 a1) (hno : i.wasR = true ∨ datEP p2 i f ≠ 0) :
  Calls Tryz.prog 24 #[ptr a.sb,f.val] w fun e w'=>e = .returned (.int .i64 (datEP p2 i f)) ∧ Mn W w' a (stlP p2 q1 q2 x) R:=by
 obtain ⟨H,s,hm,hs,rfl,hr⟩:=h
 refine (Receive_138 hs hm f hv (by rw [hty];decide) (by rw [hty];decide) (by rw [hty];rfl) (by rw [hty];rfl)
  (fun xb s2=>s2.pl = p2 ∧ fndP s2.ss x.id = ptr xb)
  (fun er s3 l1 l2 _ x3=>er = datEP p2 i f ∧ s3.pl = p2 ∧ l1.map (·.2) = q1 ∧ l2.map (·.2) = q2 ∧ x3 = x)
  (fun w1 H1 hm1 hs1=>by rw [hstr];exact CN s w1 H1 rfl hm1 hs1) ?_).mono fun e w' hh=>?_
 ·rintro w2 H2 s2 xb ⟨rfl,hf⟩ hm2 hs2
  obtain ⟨l1,xa,l2,hl,e1,e2⟩:=pl_split (l:=s2.ss) hq
  have hxb:=xb_of hs2 hl hf
  subst hxb
  refine (onData_no hs2 hm2 hl hi f hf0 hf1 hf2 hc ht hat (hE.below hm2.below) (hA.below hm2.below) hno).mono fun e w3 hh=>?_
  obtain ⟨rfl,H3,T,S⟩:=hh
  exact ⟨_,H3,s2,l1,l2,xa,x,rfl,T,S,hl,rfl,hg0,hg1,rfl,rfl,e1,e2,rfl⟩
 ·obtain ⟨er,H4,s3,l1,l2,xa3,x3,rfl,⟨rfl,h1,rfl,rfl,rfl⟩,hl,T,S⟩:=hh
  exact ⟨rfl,Mn.to hr T S (by rw [pl_stl,h1])⟩
theorem mn_take (h : Mn W w a p R) {q1 q2 : List Strm} {x : Strm} {i : InP} (hq : p.ss = q1 ++ x :: q2) (hi : x.inp = some i) (n : Nat) (hn : n ≤ 1152921504606846976) (hat : i.R.at_ ≤ 1125899906842624) (h0 : p.g0.Ok) (hg1 : p.g1.Ok) (hst : i.stp = false) (hrv : i.recv ≠ 3 ∧ i.recv ≠ 4 ∧ i.recv ≠ 5) :
  Calls Tryz.prog 26 #[ptr a.sb,.int .i64 x.id,.int .i64 n] w fun e w'=>e = .returned (.tuple #[.string (rdStr i.R n),.bool (rdEnd i.R n),.int .i64 0]) ∧ Mn W w' a (stlP { p with wn:=p.wn.read (rdN i.R n) } q1 q2 { x with inp:=some (takeI i n) }) R:=by
 obtain ⟨H,s,hm,hs,rfl,hr⟩:=h
 obtain ⟨l1,xa,l2,hl,e1,e2⟩:=pl_split (l:=s.ss) hq
 refine (Read_take hs hm hl hi n hn hat h0 hg1 hst hrv).mono fun e w' hh=>?_
 obtain ⟨rfl,H',xa',_,T,S⟩:=hh
 refine ⟨rfl,Mn.to hr T S ?_⟩
 rw [pl_stl,e1,e2]
 rfl
end
end
def srvG : Nat → List Nat → Nat → SetP → Bat → Option (SetP × Bat)
 | 0,_,_,_,_=>none
 | n + 1,l,i,s,b=>if l.length ≤ i then some (s,b) else match l with
  | []=>none
  | x :: t=>srvG n (t ++ [x]) (if (srv s x b).2.2 then 0 else i + 1) (srv s x b).1 (srv s x b).2.1
theorem srvG_ok : ∀ (n : Nat) (l : List Nat) (i : Nat) (s : SetP) (b : Bat) (r : SetP × Bat),srvG n l i s b = some r → Srv l i s b r.1 r.2
 | 0,_,_,_,_,_,h=>by cases h
 | n + 1,l,i,s,b,r,h=>by
  unfold srvG at h
  split at h
  ·rename_i hi
   injection h with h
   subst h
   exact .stop l i s b hi
  ·rename_i hi
   cases l with
   | nil=>cases h
   | cons x t=>exact .go x t i s b _ _ (by simp at hi;omega) (srvG_ok n _ _ _ _ _ h)
def frmG (n : Nat) (s : SetP) (most : Int) : Option (SetP × List Fr):=
 if (clP s ⟨[],most⟩).2.2 then
  if (ctlL (clP s ⟨[],most⟩).1.ss (clP s ⟨[],most⟩).2.1).2.2 then
   (srvG n (cycF ((blP { (clP s ⟨[],most⟩).1 with ss:=(ctlL (clP s ⟨[],most⟩).1.ss (clP s ⟨[],most⟩).2.1).1 } (ctlL (clP s ⟨[],most⟩).1.ss (clP s ⟨[],most⟩).2.1).2.1).1.ss.map (·.id)) (blP { (clP s ⟨[],most⟩).1 with ss:=(ctlL (clP s ⟨[],most⟩).1.ss (clP s ⟨[],most⟩).2.1).1 } (ctlL (clP s ⟨[],most⟩).1.ss (clP s ⟨[],most⟩).2.1).2.1).1.srv) 0 (blP { (clP s ⟨[],most⟩).1 with ss:=(ctlL (clP s ⟨[],most⟩).1.ss (clP s ⟨[],most⟩).2.1).1 } (ctlL (clP s ⟨[],most⟩).1.ss (clP s ⟨[],most⟩).2.1).2.1).1 (blP { (clP s ⟨[],most⟩).1 with ss:=(ctlL (clP s ⟨[],most⟩).1.ss (clP s ⟨[],most⟩).2.1).1 } (ctlL (clP s ⟨[],most⟩).1.ss (clP s ⟨[],most⟩).2.1).2.1).2).map fun x=>(x.1,x.2.fs)
  else some ({ (clP s ⟨[],most⟩).1 with ss:=(ctlL (clP s ⟨[],most⟩).1.ss (clP s ⟨[],most⟩).2.1).1 },(ctlL (clP s ⟨[],most⟩).1.ss (clP s ⟨[],most⟩).2.1).2.1.fs)
 else some ((clP s ⟨[],most⟩).1,(clP s ⟨[],most⟩).2.1.fs)
theorem FramesP.is {s s' : SetP} {most : Int} {fs : List Fr} (h : FramesP s most s' fs) {n : Nat} {r : SetP × List Fr} (hr : frmG n s most = some r) : s' = r.1 ∧ fs = r.2:=by
 unfold FramesP at h
 unfold frmG at hr
 split at h
 ·rename_i h1
  rw [if_pos h1] at hr
  split at h
  ·rename_i h2
   rw [if_pos h2] at hr
   obtain ⟨q,rfl,b',h3,rfl⟩:=h
   obtain ⟨y,h4,rfl⟩:=Option.map_eq_some_iff.mp hr
   obtain ⟨rfl,rfl⟩:=h3.det (srvG_ok _ _ _ _ _ _ h4)
   exact ⟨rfl,rfl⟩
  ·rename_i h2
   rw [if_neg h2] at hr
   injection hr with hr
   subst hr
   exact h
 ·rename_i h1
  rw [if_neg h1] at hr
  injection hr with hr
  subst hr
  exact h
def sP : Pms:=⟨100,50,1,1,0,0⟩
def s0 : SetP:=newP true sP sP
def s1 : SetP:={ s0 with g0:=incG s0.g0,ss:=insP (newStrm s0.cl s0.peer.sdata 50 (4 * 0 + 0)) s0.ss }
def s2 : SetP:={ s1 with g0:=blkG s1.g0 }
def abc : ByteArray:=⟨#[97,98,99]⟩
def x0 : Strm:=newStrm true 50 50 0
def s3 : SetP:={ s2 with ss:=[] ++ wrS x0 abc :: [] }
theorem wr0 : wrN x0 abc = 3 ∧ wcE x0 = 0:=by decide
def s4 : SetP:=((frmG 10 s3 100).getD (s3,[])).1
def row1 : List Fr:=[fSBl false 1,fStr 0 0 abc false]
theorem fr4 : frmG 10 s3 100 = some (s4,row1):=by rfl
def x4 : Strm:=s4.ss.headD x0
theorem s4_ss : s4.ss = [] ++ x4 :: []:=by rfl
def s5 : SetP:={ s4 with ss:=[] ++ fnS x4 :: [] }
theorem wc4 : wcE x4 = 0:=by rfl
theorem id4 : x4.id = 0:=by rfl
def s6 : SetP:=((frmG 10 s5 100).getD (s3,[])).1
def row2 : List Fr:=[fStr 0 3 ByteArray.empty true]
theorem fr6 : frmG 10 s5 100 = some (s6,row2):=by rfl
def x6 : Strm:=s6.ss.headD x0
theorem s6_ss : s6.ss = [] ++ x6 :: []:=by rfl
def o6 : OutP:=x6.out.getD (newOut 50)
theorem o6_ss : x6.out = some o6:=by rfl
def y6 : Strm:={ x6 with out:=some (stpO o6 7) }
def s7 : SetP:=stlP { s6 with ss:=[] ++ y6 :: [] } [] [] y6
theorem s7_ss : s7.ss = [] ++ y6 :: []:=by rfl
theorem wc7 : wcE y6 = 194:=by rfl
theorem wn7 : wrN y6 ⟨#[120]⟩ = 0:=by rfl
def s8 : SetP:={ s7 with ss:=[] ++ wrS y6 ⟨#[120]⟩ :: [] }
def s9 : SetP:=((frmG 10 s8 100).getD (s3,[])).1
def row3 : List Fr:=[fReset 0 7 3]
theorem fr9 : frmG 10 s8 100 = some (s9,row3):=by rfl
def x9 : Strm:=s9.ss.headD x0
theorem s9_ss : s9.ss = [] ++ x9 :: []:=by rfl
def y3 : Strm:=newStrm true 50 50 3
theorem cr9 : crP s9.cl s9.peer.sdata 50 (3 % 4) (3 / 4 + 1 - 0) 0 s9.ss = [x9] ++ y3 :: []:=by rfl
def t0 : SetP:={ s9 with ss:=[x9] ++ y3 :: [],g1:={ s9.g1 with acc:=(0 + (3 / 4 + 1 - 0) : Nat) } }
def hello : ByteArray:=⟨#[104,101,108,108,111]⟩
def fHello : Fr:=fStr 3 0 hello true
def i3 : InP:=newIn 50
theorem y3_i : y3.inp = some i3:=by rfl
theorem dat3 : datEP t0 i3 fHello = 0:=by decide
def z3 : Strm:={ y3 with inp:=some (datI2 i3 fHello) }
def t1 : SetP:=stlP (datSP t0 i3 fHello ([x9] ++ z3 :: [])) [x9] [] z3
theorem t1_ss : t1.ss = [x9] ++ z3 :: []:=by rfl
theorem acc1 : t1.ss.find? (accE t1.cl) = some z3:=by rfl
def z4 : Strm:={ z3 with acc:=true }
def t2 : SetP:={ t1 with ss:=[x9] ++ z4 :: [] }
def i4 : InP:=datI2 i3 fHello
theorem z4_i : z4.inp = some i4:=by rfl
theorem rd4 : rdStr i4.R 9 = hello ∧ rdEnd i4.R 9 = true:=by constructor <;> rfl
theorem st4 : i4.stp = false ∧ i4.recv ≠ 3 ∧ i4.recv ≠ 4 ∧ i4.recv ≠ 5:=by decide
section
open Go.RowKit Go.Maps
def oB (o : OutP) : Bool:=decide (0 ≤ o.rw ∧ o.rw ≤ 1073741823 ∧ 0 ≤ o.cr.used ∧ o.cr.used ≤ o.cr.most ∧ o.cr.most ≤ maxOff ∧ -1 ≤ o.cr.rep ∧ o.cr.rep ≤ 9223372036854775807 ∧ (o.X.sent : Int) ≤ o.cr.used)
def sB (x : Strm) : Bool:=(match x.out with | none=>true | some o=>oB o) && (match x.inp with | none=>true | some i=>decide (0 ≤ i.sw ∧ i.sw ≤ 1073741823))
def gB (g : Grp) : Bool:=decide (0 ≤ g.opn ∧ g.opn ≤ 1000000000 ∧ 0 ≤ g.acc ∧ g.acc ≤ 1000000000 ∧ 0 ≤ g.gr ∧ g.gr ≤ 1000000000 ∧ 0 ≤ g.fg ∧ g.fg ≤ 1000000000)
def goodB (p : SetP) : Bool:=p.ss.all sB && (gB p.g0 && (gB p.g1 && decide ((0 ≤ p.g0.olim ∧ p.g0.olim ≤ 4611686018427387903) ∧ (0 ≤ p.g1.olim ∧ p.g1.olim ≤ 4611686018427387903) ∧ 0 ≤ p.cr.used ∧ p.cr.used ≤ p.cr.most ∧ p.cr.most ≤ maxOff ∧ -1 ≤ p.cr.rep ∧ p.cr.rep ≤ 9223372036854775807 ∧ p.ss.length ≤ 5000)))
theorem gB_ok {g : Grp} (h : gB g = true) : g.Ok:=by
 have:=of_decide_eq_true h
 exact this
theorem goodB_ok {p : SetP} (h : goodB p = true) : FGood p:=by
 unfold goodB at h
 simp only [Bool.and_eq_true] at h
 obtain ⟨h1,h2,h3,h4⟩:=h
 obtain ⟨a1,a2,a3,a4,a5,a6,a7,a8⟩:=of_decide_eq_true h4
 refine ⟨fun x hx=>?_,gB_ok h2,gB_ok h3,a1,a2,⟨a3,a4,a5⟩,⟨a6,a7⟩,a8⟩
 have hb:=List.all_eq_true.mp h1 x hx
 unfold sB at hb
 simp only [Bool.and_eq_true] at hb
 refine ⟨fun o ho=>?_,fun i hi=>?_⟩
 ·rw [ho] at hb
  obtain ⟨b1,b2,b3,b4,b5,b6,b7,b8⟩:=of_decide_eq_true hb.1
  exact ⟨⟨b1,b2⟩,⟨b3,b4,b5⟩,⟨b6,b7⟩,b8⟩
 ·rw [hi] at hb
  exact of_decide_eq_true hb.2
theorem g3 : FGood s3:=goodB_ok rfl
theorem g5 : FGood s5:=goodB_ok rfl
theorem g8 : FGood s8:=goodB_ok rfl
theorem g7 : s6.g0.Ok ∧ s6.g1.Ok:=⟨gB_ok rfl,gB_ok rfl⟩
theorem gt0 : t0.g0.Ok ∧ t0.g1.Ok:=⟨gB_ok rfl,gB_ok rfl⟩
theorem gt2 : t2.g0.Ok ∧ t2.g1.Ok:=⟨gB_ok rfl,gB_ok rfl⟩
section
variable {W w : World} {a : SetA} {R : List (Nat × Obj)} {a0 a1 a2 a3 : Addr}
theorem c_open1 (h : Mn W w a s0 R) : Calls Tryz.prog 18 #[.pointer (some ⟨a.sb,0,none⟩),.bool false] w fun e w'=>e = .returned (.tuple #[.int .i64 0,.int .i64 0]) ∧ Mn W w' a s1 R:=
 mn_open0c h (by decide) 0 rfl (by decide) rfl (by decide) (by decide) 50 rfl (by decide) (fun e he=>by cases he) (by decide)
theorem c_open2 (h : Mn W w a s1 R) : Calls Tryz.prog 18 #[.pointer (some ⟨a.sb,0,none⟩),.bool false] w fun e w'=>e = .returned (.tuple #[.int .i64 0,.int .i64 191]) ∧ Mn W w' a s2 R:=
 mn_open_no0 h (by decide)
theorem c_write (h : Mn W w a s2 R) : Calls Tryz.prog 19 #[.pointer (some ⟨a.sb,0,none⟩),.int .i64 0,.string { data:=#[97,98,99] }] w fun e w'=>e = .returned (.tuple #[.int .i64 3,.int .i64 0]) ∧ Mn W w' a s3 R:=by
 have:=mn_write h (q1:=[]) (q2:=[]) (x:=x0) rfl abc (by decide) (fun o ho=>by injection ho with ho;subst ho;decide)
 rw [wr0.1,wr0.2] at this
 exact this
def FrOut (W w' : World) (a : SetA) (p : SetP) (row : List Fr) (R : List (Nat × Obj)) (e : Ending) : Prop:=∃ g cap o,e = .returned (.slice (some ⟨g,0,none⟩) row.length cap) ∧ (∀ w : World,w.heap[g]? = some o → ∀ (k : Nat) u,(frs row)[k]? = some u → w.cell? ⟨g,k,none⟩ = some u) ∧ Mn W w' a p ((g,o) :: R)
theorem c_frames {s s' : SetP} {row : List Fr} (hg : FGood s) (hr : frmG 10 s 100 = some (s',row)) (h0 : 0 < row.length) (h : Mn W w a s R) : Calls Tryz.prog 21 #[.pointer (some ⟨a.sb,0,none⟩),.int .i64 100] w fun e w'=>FrOut W w' a s' row R e:=by
 refine (mn_frames h hg 100 (by decide) (by decide)).mono fun e w' hh=>?_
 obtain ⟨v,fs,p',R',rfl,h1,h2,h3,h4,h5⟩:=hh
 obtain ⟨rfl,rfl⟩:=h1.is hr
 obtain ⟨g,cap,o,rfl,rfl,h6⟩:=h4.cell h0
 exact ⟨g,cap,o,rfl,h6,h5⟩
theorem c_finish (h : Mn W w a s4 R) : Calls Tryz.prog 23 #[.pointer (some ⟨a.sb,0,none⟩),.int .i64 0] w fun e w'=>e = .returned (.int .i64 0) ∧ Mn W w' a s5 R:=by
 have:=mn_finish h (q1:=[]) (q2:=[]) (x:=x4) s4_ss
 rw [wc4,id4] at this
 exact this
theorem vStop : frm.FrV (fStop 0 7):=v_stop (by decide) (by decide)
theorem c_stop (h : Mn W w a s6 R) : Calls Tryz.prog 24 #[.pointer (some ⟨a.sb,0,none⟩),(fStop 0 7).val] w fun e w'=>e = .returned (.int .i64 0) ∧ Mn W w' a s7 R:=
 mn_stop h (fStop 0 7) vStop rfl (x:=x6) (o:=o6) (q1:=[]) (q2:=[]) rfl (cn_old0 _ (by decide) true s6_ss rfl (by decide) (by decide) (by decide)) s6_ss o6_ss g7.1 g7.2
theorem c_write2 (h : Mn W w a s7 R) : Calls Tryz.prog 19 #[.pointer (some ⟨a.sb,0,none⟩),.int .i64 0,.string { data:=#[120] }] w fun e w'=>e = .returned (.tuple #[.int .i64 0,.int .i64 194]) ∧ Mn W w' a s8 R:=by
 have:=mn_write h (q1:=[]) (q2:=[]) (x:=y6) s7_ss ⟨#[120]⟩ (by decide) (fun o ho=>by injection ho with ho;subst ho;decide)
 rw [wc7,wn7] at this
 exact this
theorem vHello : frm.FrV fHello:=v_str (by decide) (by decide) (by decide) (by decide)
theorem c_hello (h : Mn W w a s9 R) (hE : rea.Errs W a0 a1 a2 a3) (hA : rea.Apt W a0 a1) : Calls Tryz.prog 24 #[.pointer (some ⟨a.sb,0,none⟩),fHello.val] w fun e w'=>e = .returned (.int .i64 0) ∧ Mn W w' a t1 R:=
 mn_data h fHello vHello rfl (x:=y3) (i:=i3) (q1:=[x9]) (q2:=[]) rfl (cn_new1 3 (by decide) (by decide) (by decide) 0 rfl (by decide) (by decide) (by decide) (by decide) 50 rfl (by decide) (by decide) (fun e he=>by rw [s9_ss] at he;simp at he;subst he;decide) (by decide) cr9 rfl) rfl y3_i gt0.1 gt0.2
  (by decide) (by decide) (by decide) (by decide) (by decide) (by decide) (by decide) (by decide) (by decide) hE hA rfl dat3
theorem c_accept (h : Mn W w a t1 R) : Calls Tryz.prog 25 #[.pointer (some ⟨a.sb,0,none⟩)] w fun e w'=>e = .returned (.tuple #[.int .i64 3,.bool true]) ∧ Mn W w' a t2 R:=by
 refine (mn_accept_yes h (by decide) acc1).mono fun e w' hh=>?_
 obtain ⟨rfl,q1,q2,hq,hM⟩:=hh
 refine ⟨rfl,?_⟩
 have : q1 = [x9] ∧ q2 = []:=by
  rw [t1_ss] at hq
  cases q1 with
  | nil=>injection hq with h1 h2;exact absurd (congrArg Strm.id h1) (by decide)
  | cons y t=>
   injection hq with h1 h2
   cases t with
   | nil=>injection h2 with h3 h4;exact ⟨by rw [h1],h4.symm⟩
   | cons z t=>injection h2 with h3 h4;cases t <;> cases h4
 rw [this.1,this.2] at hM
 exact hM
theorem c_read (h : Mn W w a t2 R) : Calls Tryz.prog 26 #[.pointer (some ⟨a.sb,0,none⟩),.int .i64 3,.int .i64 9] w fun e w'=>e = .returned (.tuple #[.string { data:=#[104,101,108,108,111] },.bool true,.int .i64 0]) ∧ Below W.heap.size W w':=by
 refine (mn_take h (q1:=[x9]) (q2:=[]) (x:=z4) (i:=i4) rfl z4_i 9 (by decide) (by decide) gt2.1 gt2.2 st4.1 st4.2).mono fun e w' hh=>?_
 obtain ⟨rfl,hM⟩:=hh
 rw [rd4.1,rd4.2]
 exact ⟨rfl,hM.below⟩
end
end
end Go.Proofs.YthckbmcmdcemkaaGreatDoor.stm
