/- Texts of this claim, one behind the other: Se Mr Ms Tb Mw. -/
import Derived.Test.YthckbmcmdcemkaaGreatDoorBs37
import Derived.Test.YthckbmcmdcemkaaGreatDoorBs28
import Derived.Test.YthckbmcmdcemkaaGreatDoorBs26
import Derived.Test.YthckbmcmdcemkaaGreatDoorBs24
import Derived.Test.YthckbmcmdcemkaaGreatDoorBs27
import Derived.Test.YthckbmcmdcemkaaGreatDoorBs36
set_option maxRecDepth 100000
set_option maxHeartbeats 16000000
set_option linter.unusedSimpArgs false
set_option linter.unusedVariables false
namespace Go.Proofs.YthckbmcmdcemkaaGreatDoor.stm
section
open Go.RowKit
section
variable {W w w' : World} {H H' : Nat → Option Obj} {a : SetA} {s : SetS}
theorem Read_take (hs : SetIn H a s) (hm : Mem W w H) {l1 l2 : List (StA × Strm)} {xa : StA} {x : Strm} {i : InP} (hl : s.ss = l1 ++ (xa,x) :: l2) (hi : x.inp = some i) (n : Nat) (hn : n ≤ 1152921504606846976) (hat : i.R.at_ ≤ 1125899906842624) (h0 : s.g0.Ok) (hg1 : s.g1.Ok) (hst : i.stp = false) (hrv : i.recv ≠ 3 ∧ i.recv ≠ 4 ∧ i.recv ≠ 5) :
  Calls Tryz.prog 26 #[ptr a.sb,.int .i64 x.id,.int .i64 n] w fun e w'=>e = .returned (.tuple #[.string (rdStr i.R n),.bool (rdEnd i.R n),.int .i64 0]) ∧ ∃ H' xa',xa'.xb = xa.xb ∧ To W w' H H' (s.foot a) ((stlS { s with wn:=s.wn.read (rdN i.R n) } l1 l2 xa' { x with inp:=some (takeI i n) }).foot a) ∧ SetIn H' a (stlS { s with wn:=s.wn.read (rdN i.R n) } l1 l2 xa' { x with inp:=some (takeI i n) }):=by
 have he : (xa,x) ∈ s.ss:=by rw [hl];simp
 have hid : x.id < 1152921504606846976:=hs.li.bd _ he
 have hx:=hs.li.all _ he
 have h0':=hx.i
 simp only [hi] at h0'
 obtain ⟨ia,h1,h2⟩:=h0'.some_of
 have c2:=hx.c2 hm
 rw [h1] at c2
 simp only [Option.map_some,optP,ptr] at c2
 have d3 : w.cell? ⟨ia.ib,3,none⟩ = some (.bool i.stp):=h2.facts hm 3 rfl
 have d2 : w.cell? ⟨ia.ib,2,none⟩ = some (.int .i64 i.recv):=h2.facts hm 2 rfl
 have RD:=Lib.hid (readable_any hs hm he)
 rw [hi] at RD
 simp only [Option.isSome_some,if_true] at RD
 have hn0 : ((n : Int) < 0) = False:=eq_false (by omega)
 have TK:=Lib.hid (take_any hs hm hl hi n hn hat)
 have G0:=Lib.hid (And.intro h0 hg1)
 have k3 : (i.recv == 3) = false:=beq_eq_false_iff_ne.2 hrv.1
 have k4 : (i.recv == 4) = false:=beq_eq_false_iff_ne.2 hrv.2.1
 have k5 : (i.recv == 5) = false:=beq_eq_false_iff_ne.2 hrv.2.2
 rw [hst] at d3
 clear hs hm hl hi hn hat h0 hg1 hst hrv he hx h0' h1 h2
 unfold ptr at *
 go_enter_defers Tryz.func26,Tryz.ntmps26
 go_wp2_with (first | (go_at_call 74;refine RD.out.mono ?_;rintro e wv ⟨rfl,rfl⟩) | (go_at_call 76;refine TK.out.mono ?_;rintro e w4 ⟨rfl,H4,xa4,e4,i4,T4,S4⟩;have G4:=Lib.hid (And.intro e4 (And.intro T4 S4));clear e4 i4 T4 S4))
 refine leaves_cons (f:=72) (args:=#[.pointer (some ⟨a.sb,0,none⟩),.pointer (some ⟨xa.xb,0,none⟩)]) (by simp) (by simp [go_sem]) ?_
 have SD:=settle_anyD G4.out.2.2 G4.out.2.1.mem rfl G0.out.1 G0.out.2
 rw [G4.out.1] at SD
 refine SD.mono ?_
 rintro e u' w5 ⟨rfl,rfl,H5,T5,S5⟩
 refine ⟨_,by simp [results,Tryz.f26,go_sem],rfl,H5,xa4,G4.out.1,G4.out.2.1.trans T5,S5⟩
end
end
section
open Go.RowKit
def blkG (g : Grp) : Grp:={ g with bl:=g.bl || (g.rep != g.olim),rep:=g.olim }
def incG (g : Grp) : Grp:={ g with opn:=g.opn + 1 }
section
variable {W w w' : World} {H : Nat → Option Obj} {a : SetA} {s : SetS}
theorem open_no0 (hs : SetIn H a s) (hm : Mem W w H) (hc : s.g0.olim ≤ s.g0.opn) :
  Calls Tryz.prog 18 #[ptr a.sb,.bool false] w fun e w'=>e = .returned (.tuple #[.int .i64 0,.int .i64 191]) ∧ ∃ H',To W w' H H' (s.foot a) (SetS.foot { s with g0:=blkG s.g0 } a) ∧ SetIn H' a { s with g0:=blkG s.g0 }:=by
 have copn : w.cell? ⟨a.sb,14,none⟩ = some (.int .i64 s.g0.opn):=at_whole' (hm.at hs.sb) rfl
 have colim : w.cell? ⟨a.sb,16,none⟩ = some (.int .i64 s.g0.olim):=at_whole' (hm.at hs.sb) rfl
 have cbl : w.cell? ⟨a.sb,20,none⟩ = some (.bool s.g0.bl):=at_whole' (hm.at hs.sb) rfl
 have crep : w.cell? ⟨a.sb,21,none⟩ = some (.int .i64 s.g0.rep):=at_whole' (hm.at hs.sb) rfl
 have d0 : (s.g0.olim ≤ s.g0.opn) = True:=eq_true hc
 have HH:=Lib.hid (And.intro hs hm)
 obtain ⟨nr,hnr⟩ : ∃ nr,(s.g0.rep != s.g0.olim) = nr:=⟨_,rfl⟩
 have HNR:=Lib.hid hnr
 obtain ⟨ob,hob⟩ : ∃ ob,s.g0.bl = ob:=⟨_,rfl⟩
 rw [hob] at cbl
 have HOB:=Lib.hid hob
 clear hs hm hc hob
 unfold ptr
 go_enter Tryz.func18,Tryz.ntmps18
 go_wp2_with fail
 go_quiet (fail)
 have M1:=HH.out.2.same (belowN (Below.refl w.heap.size w) nq)
 generalize w.drewN nq = w1 at M1 ⊢
 clear copn colim cbl crep
 have qolim : w1.cell? ⟨a.sb,16,none⟩ = some (.int .i64 s.g0.olim):=at_whole' (M1.at HH.out.1.sb) rfl
 have qbl : w1.cell? ⟨a.sb,20,none⟩ = some (.bool s.g0.bl):=at_whole' (M1.at HH.out.1.sb) rfl
 have qrep : w1.cell? ⟨a.sb,21,none⟩ = some (.int .i64 s.g0.rep):=at_whole' (M1.at HH.out.1.sb) rfl
 rw [HOB.out] at qbl
 go_wp2_with fail
 have z2:=frozen_whole (M1.at HH.out.1.sb) 20
 obtain ⟨H4,S4,T4⟩:=HH.out.1.set M1 (s':={ s with g0:={ s.g0 with bl:=ob || nr } }) 20 (.bool (ob || nr)) rfl rfl rfl rfl
 have T4d:=T4.same ((Below.refl _ (w1.setCell ⟨a.sb,20,none⟩ (.bool (ob || nr)))).drew)
 have z3:=frozen_whole (T4.mem.at S4.sb) 21
 have qo3 : (w1.setCell ⟨a.sb,20,none⟩ (.bool (ob || nr))).cell? ⟨a.sb,16,none⟩ = some (.int .i64 s.g0.olim):=at_whole' (T4.mem.at S4.sb) rfl
 have qr3 : (w1.setCell ⟨a.sb,20,none⟩ (.bool (ob || nr))).cell? ⟨a.sb,21,none⟩ = some (.int .i64 s.g0.rep):=at_whole' (T4.mem.at S4.sb) rfl
 obtain ⟨H5,S5,T5⟩:=S4.set T4d.mem (s':={ s with g0:=blkG s.g0 }) 21 (.int .i64 s.g0.olim) (by simp [blkG,HNR.out,HOB.out,SetS.cells]) rfl rfl rfl
 have RR:=Lib.hid (And.intro (T4d.trans T5) S5)
 clear S4 T4 S5 T5 M1 T4d
 cases ob
 ·simp only [Bool.false_or] at RR z3 qo3 qr3
  go_region
  go_wp2
  go_returns
  exact ⟨rfl,H5,RR.out⟩
 ·simp only [Bool.true_or] at RR z3 qo3 qr3
  go_region
  go_wp2
  go_returns
  exact ⟨rfl,H5,RR.out⟩
theorem open_no1 (hs : SetIn H a s) (hm : Mem W w H) (hc : s.g1.olim ≤ s.g1.opn) :
  Calls Tryz.prog 18 #[ptr a.sb,.bool true] w fun e w'=>e = .returned (.tuple #[.int .i64 0,.int .i64 191]) ∧ ∃ H',To W w' H H' (s.foot a) (SetS.foot { s with g1:=blkG s.g1 } a) ∧ SetIn H' a { s with g1:=blkG s.g1 }:=by
 have copn : w.cell? ⟨a.sb,22,none⟩ = some (.int .i64 s.g1.opn):=at_whole' (hm.at hs.sb) rfl
 have colim : w.cell? ⟨a.sb,24,none⟩ = some (.int .i64 s.g1.olim):=at_whole' (hm.at hs.sb) rfl
 have cbl : w.cell? ⟨a.sb,28,none⟩ = some (.bool s.g1.bl):=at_whole' (hm.at hs.sb) rfl
 have crep : w.cell? ⟨a.sb,29,none⟩ = some (.int .i64 s.g1.rep):=at_whole' (hm.at hs.sb) rfl
 have d0 : (s.g1.olim ≤ s.g1.opn) = True:=eq_true hc
 have HH:=Lib.hid (And.intro hs hm)
 obtain ⟨nr,hnr⟩ : ∃ nr,(s.g1.rep != s.g1.olim) = nr:=⟨_,rfl⟩
 have HNR:=Lib.hid hnr
 obtain ⟨ob,hob⟩ : ∃ ob,s.g1.bl = ob:=⟨_,rfl⟩
 rw [hob] at cbl
 have HOB:=Lib.hid hob
 clear hs hm hc hob
 unfold ptr
 go_enter Tryz.func18,Tryz.ntmps18
 go_wp2_with fail
 go_quiet (fail)
 have M1:=HH.out.2.same (belowN (Below.refl w.heap.size w) nq)
 generalize w.drewN nq = w1 at M1 ⊢
 clear copn colim cbl crep
 have qolim : w1.cell? ⟨a.sb,24,none⟩ = some (.int .i64 s.g1.olim):=at_whole' (M1.at HH.out.1.sb) rfl
 have qbl : w1.cell? ⟨a.sb,28,none⟩ = some (.bool s.g1.bl):=at_whole' (M1.at HH.out.1.sb) rfl
 have qrep : w1.cell? ⟨a.sb,29,none⟩ = some (.int .i64 s.g1.rep):=at_whole' (M1.at HH.out.1.sb) rfl
 rw [HOB.out] at qbl
 go_wp2_with fail
 have z2:=frozen_whole (M1.at HH.out.1.sb) 28
 obtain ⟨H4,S4,T4⟩:=HH.out.1.set M1 (s':={ s with g1:={ s.g1 with bl:=ob || nr } }) 28 (.bool (ob || nr)) rfl rfl rfl rfl
 have T4d:=T4.same ((Below.refl _ (w1.setCell ⟨a.sb,28,none⟩ (.bool (ob || nr)))).drew)
 have z3:=frozen_whole (T4.mem.at S4.sb) 29
 have qo3 : (w1.setCell ⟨a.sb,28,none⟩ (.bool (ob || nr))).cell? ⟨a.sb,24,none⟩ = some (.int .i64 s.g1.olim):=at_whole' (T4.mem.at S4.sb) rfl
 have qr3 : (w1.setCell ⟨a.sb,28,none⟩ (.bool (ob || nr))).cell? ⟨a.sb,29,none⟩ = some (.int .i64 s.g1.rep):=at_whole' (T4.mem.at S4.sb) rfl
 obtain ⟨H5,S5,T5⟩:=S4.set T4d.mem (s':={ s with g1:=blkG s.g1 }) 29 (.int .i64 s.g1.olim) (by simp [blkG,HNR.out,HOB.out,SetS.cells]) rfl rfl rfl
 have RR:=Lib.hid (And.intro (T4d.trans T5) S5)
 clear S4 T4 S5 T5 M1 T4d
 cases ob
 ·simp only [Bool.false_or] at RR z3 qo3 qr3
  go_region
  go_wp2
  go_returns
  exact ⟨rfl,H5,RR.out⟩
 ·simp only [Bool.true_or] at RR z3 qo3 qr3
  go_region
  go_wp2
  go_returns
  exact ⟨rfl,H5,RR.out⟩
end
end
section
open Go.RowKit
section
variable {W w w' : World} {H : Nat → Option Obj} {a : SetA} {s : SetS}
theorem open_yes0c (hs : SetIn H a s) (hm : Mem W w H) (hc : s.g0.opn < s.g0.olim) (m : Nat) (hmo : s.g0.opn = m) (hmb : m ≤ 1000000000) (hcl : s.cl = true) (hp0 : 0 ≤ s.peer.sdata) (hp1 : s.peer.sdata ≤ 1073741824) (sd : Nat) (hl : s.loc.sdata = sd) (hl2 : sd ≤ 8192) (hnew : ∀ e ∈ s.ss,e.2.id ≠ 4 * m + 0) (hlen : s.ss.length ≤ 900000) :
  Calls Tryz.prog 18 #[ptr a.sb,.bool false] w fun e w'=>e = .returned (.tuple #[.int .i64 ((4 * m + 0 : Nat) : Int),.int .i64 0]) ∧ ∃ H' xa,To W w' H H' (s.foot a) (SetS.foot { s with g0:=incG s.g0,ss:=insS (xa,newStrm s.cl s.peer.sdata sd (4 * m + 0)) s.ss } a) ∧ SetIn H' a { s with g0:=incG s.g0,ss:=insS (xa,newStrm s.cl s.peer.sdata sd (4 * m + 0)) s.ss }:=by
 have copn : w.cell? ⟨a.sb,14,none⟩ = some (.int .i64 s.g0.opn):=at_whole' (hm.at hs.sb) rfl
 have colim : w.cell? ⟨a.sb,16,none⟩ = some (.int .i64 s.g0.olim):=at_whole' (hm.at hs.sb) rfl
 have ccl : w.cell? ⟨a.sb,0,none⟩ = some (.bool s.cl):=at_whole' (hm.at hs.sb) rfl
 have d0 : (s.g0.olim ≤ (m : Int)) = False:=eq_false (by omega)
 have HH:=Lib.hid (And.intro hs hm)
 rw [hcl] at ccl
 rw [hmo] at copn
 have b1 : bits .or .i64 ((m : Int) * 4) 0 = 4 * (m : Int):=by
  have:=or4_i64 m 0 (by decide) (by omega)
  rw [Int.mul_comm];rw [show ((0 : Nat) : Int) = 0 from rfl] at this;rw [this];omega
 have b3 : bits .or .i64 (4 * (m : Int)) 1 = 4 * (m : Int) + 1:=by
  have:=or1_i64 (2 * m + 0) (by omega)
  rw [show (2 : Int) * ((2 * m + 0 : Nat) : Int) = 4 * (m : Int) by omega] at this
  rw [this];omega
 have w1 : IntKind.i64.wrap ((m : Int) + 1) = (m : Int) + 1:=IntWalk.i64_in _ (by omega)
 have HMO:=Lib.hid hmo
 have HCL:=Lib.hid hcl
 have HNW:=Lib.hid hnew
 clear hs hm hc hmo hnew hcl
 unfold ptr
 go_enter Tryz.func18,Tryz.ntmps18
 go_wp2_with fail
 go_quiet (fail)
 have M1:=HH.out.2.same (belowN (Below.refl w.heap.size w) nq)
 have copn : (w.drewN nq).cell? ⟨a.sb,14,none⟩ = some (.int .i64 (m : Int)):=copn
 have ccl : (w.drewN nq).cell? ⟨a.sb,0,none⟩ = some (.bool true):=ccl
 generalize w.drewN nq = w2 at M1 copn ccl ⊢
 have z:=frozen_whole (M1.at HH.out.1.sb) 14
 obtain ⟨H4,S4,T4⟩:=HH.out.1.set M1 (s':={ s with g0:=incG s.g0 }) 14 (.int .i64 ((m : Int) + 1)) (by simp [incG,HMO.out,SetS.cells]) rfl rfl rfl
 have CR0:=create_any a { s with g0:=incG s.g0 } H4 W _ (4 * m + 0) T4.mem S4 (by omega) hp0 hp1 sd hl hl2 HNW.out hlen
 rw [show ((4 * m + 0 : Nat) : Int) = 4 * (m : Int) by omega] at CR0
 have CR:=Lib.hid CR0
 clear CR0
 have HT:=Lib.hid T4
 clear S4 T4 M1
 unfold ptr at CR
 go_wp2_with (go_at_call 57;refine CR.out.mono ?_;rintro e w5 ⟨rfl,H5,xa,T5,S5⟩;have R5:=Lib.hid (And.intro (HT.out.trans T5) S5);clear T5 S5)
 go_returns
 exact ⟨by simp,H5,xa,R5.out⟩
theorem open_yes0s (hs : SetIn H a s) (hm : Mem W w H) (hc : s.g0.opn < s.g0.olim) (m : Nat) (hmo : s.g0.opn = m) (hmb : m ≤ 1000000000) (hcl : s.cl = false) (hp0 : 0 ≤ s.peer.sdata) (hp1 : s.peer.sdata ≤ 1073741824) (sd : Nat) (hl : s.loc.sdata = sd) (hl2 : sd ≤ 8192) (hnew : ∀ e ∈ s.ss,e.2.id ≠ 4 * m + 1) (hlen : s.ss.length ≤ 900000) :
  Calls Tryz.prog 18 #[ptr a.sb,.bool false] w fun e w'=>e = .returned (.tuple #[.int .i64 ((4 * m + 1 : Nat) : Int),.int .i64 0]) ∧ ∃ H' xa,To W w' H H' (s.foot a) (SetS.foot { s with g0:=incG s.g0,ss:=insS (xa,newStrm s.cl s.peer.sdata sd (4 * m + 1)) s.ss } a) ∧ SetIn H' a { s with g0:=incG s.g0,ss:=insS (xa,newStrm s.cl s.peer.sdata sd (4 * m + 1)) s.ss }:=by
 have copn : w.cell? ⟨a.sb,14,none⟩ = some (.int .i64 s.g0.opn):=at_whole' (hm.at hs.sb) rfl
 have colim : w.cell? ⟨a.sb,16,none⟩ = some (.int .i64 s.g0.olim):=at_whole' (hm.at hs.sb) rfl
 have ccl : w.cell? ⟨a.sb,0,none⟩ = some (.bool s.cl):=at_whole' (hm.at hs.sb) rfl
 have d0 : (s.g0.olim ≤ (m : Int)) = False:=eq_false (by omega)
 have HH:=Lib.hid (And.intro hs hm)
 rw [hcl] at ccl
 rw [hmo] at copn
 have b1 : bits .or .i64 ((m : Int) * 4) 0 = 4 * (m : Int):=by
  have:=or4_i64 m 0 (by decide) (by omega)
  rw [Int.mul_comm];rw [show ((0 : Nat) : Int) = 0 from rfl] at this;rw [this];omega
 have b3 : bits .or .i64 (4 * (m : Int)) 1 = 4 * (m : Int) + 1:=by
  have:=or1_i64 (2 * m + 0) (by omega)
  rw [show (2 : Int) * ((2 * m + 0 : Nat) : Int) = 4 * (m : Int) by omega] at this
  rw [this];omega
 have w1 : IntKind.i64.wrap ((m : Int) + 1) = (m : Int) + 1:=IntWalk.i64_in _ (by omega)
 have HMO:=Lib.hid hmo
 have HCL:=Lib.hid hcl
 have HNW:=Lib.hid hnew
 clear hs hm hc hmo hnew hcl
 unfold ptr
 go_enter Tryz.func18,Tryz.ntmps18
 go_wp2_with fail
 go_quiet (fail)
 have M1:=HH.out.2.same (belowN (Below.refl w.heap.size w) nq)
 have copn : (w.drewN nq).cell? ⟨a.sb,14,none⟩ = some (.int .i64 (m : Int)):=copn
 have ccl : (w.drewN nq).cell? ⟨a.sb,0,none⟩ = some (.bool false):=ccl
 generalize w.drewN nq = w2 at M1 copn ccl ⊢
 have z:=frozen_whole (M1.at HH.out.1.sb) 14
 obtain ⟨H4,S4,T4⟩:=HH.out.1.set M1 (s':={ s with g0:=incG s.g0 }) 14 (.int .i64 ((m : Int) + 1)) (by simp [incG,HMO.out,SetS.cells]) rfl rfl rfl
 have CR0:=create_any a { s with g0:=incG s.g0 } H4 W _ (4 * m + 1) T4.mem S4 (by omega) hp0 hp1 sd hl hl2 HNW.out hlen
 rw [show ((4 * m + 1 : Nat) : Int) = 4 * (m : Int) + 1 by omega] at CR0
 have CR:=Lib.hid CR0
 clear CR0
 have HT:=Lib.hid T4
 clear S4 T4 M1
 unfold ptr at CR
 go_wp2_with (go_at_call 57;refine CR.out.mono ?_;rintro e w5 ⟨rfl,H5,xa,T5,S5⟩;have R5:=Lib.hid (And.intro (HT.out.trans T5) S5);clear T5 S5)
 go_returns
 exact ⟨by simp,H5,xa,R5.out⟩
theorem open_yes1c (hs : SetIn H a s) (hm : Mem W w H) (hc : s.g1.opn < s.g1.olim) (m : Nat) (hmo : s.g1.opn = m) (hmb : m ≤ 1000000000) (hcl : s.cl = true) (hp0 : 0 ≤ s.peer.sdata) (hp1 : s.peer.sdata ≤ 1073741824) (sd : Nat) (hl : s.loc.sdata = sd) (hl2 : sd ≤ 8192) (hnew : ∀ e ∈ s.ss,e.2.id ≠ 4 * m + 2) (hlen : s.ss.length ≤ 900000) :
  Calls Tryz.prog 18 #[ptr a.sb,.bool true] w fun e w'=>e = .returned (.tuple #[.int .i64 ((4 * m + 2 : Nat) : Int),.int .i64 0]) ∧ ∃ H' xa,To W w' H H' (s.foot a) (SetS.foot { s with g1:=incG s.g1,ss:=insS (xa,newStrm s.cl s.peer.sdata sd (4 * m + 2)) s.ss } a) ∧ SetIn H' a { s with g1:=incG s.g1,ss:=insS (xa,newStrm s.cl s.peer.sdata sd (4 * m + 2)) s.ss }:=by
 have copn : w.cell? ⟨a.sb,22,none⟩ = some (.int .i64 s.g1.opn):=at_whole' (hm.at hs.sb) rfl
 have colim : w.cell? ⟨a.sb,24,none⟩ = some (.int .i64 s.g1.olim):=at_whole' (hm.at hs.sb) rfl
 have ccl : w.cell? ⟨a.sb,0,none⟩ = some (.bool s.cl):=at_whole' (hm.at hs.sb) rfl
 have d0 : (s.g1.olim ≤ (m : Int)) = False:=eq_false (by omega)
 have HH:=Lib.hid (And.intro hs hm)
 rw [hcl] at ccl
 rw [hmo] at copn
 have b1 : bits .or .i64 ((m : Int) * 4) 2 = 4 * (m : Int) + 2:=by
  have:=or4_i64 m 2 (by decide) (by omega)
  rw [Int.mul_comm];rw [show ((2 : Nat) : Int) = 2 from rfl] at this;rw [this];omega
 have b3 : bits .or .i64 (4 * (m : Int) + 2) 1 = 4 * (m : Int) + 3:=by
  have:=or1_i64 (2 * m + 1) (by omega)
  rw [show (2 : Int) * ((2 * m + 1 : Nat) : Int) = 4 * (m : Int) + 2 by omega] at this
  rw [this];omega
 have w1 : IntKind.i64.wrap ((m : Int) + 1) = (m : Int) + 1:=IntWalk.i64_in _ (by omega)
 have HMO:=Lib.hid hmo
 have HCL:=Lib.hid hcl
 have HNW:=Lib.hid hnew
 clear hs hm hc hmo hnew hcl
 unfold ptr
 go_enter Tryz.func18,Tryz.ntmps18
 go_wp2_with fail
 go_quiet (fail)
 have M1:=HH.out.2.same (belowN (Below.refl w.heap.size w) nq)
 have copn : (w.drewN nq).cell? ⟨a.sb,22,none⟩ = some (.int .i64 (m : Int)):=copn
 have ccl : (w.drewN nq).cell? ⟨a.sb,0,none⟩ = some (.bool true):=ccl
 generalize w.drewN nq = w2 at M1 copn ccl ⊢
 have z:=frozen_whole (M1.at HH.out.1.sb) 22
 obtain ⟨H4,S4,T4⟩:=HH.out.1.set M1 (s':={ s with g1:=incG s.g1 }) 22 (.int .i64 ((m : Int) + 1)) (by simp [incG,HMO.out,SetS.cells]) rfl rfl rfl
 have CR0:=create_any a { s with g1:=incG s.g1 } H4 W _ (4 * m + 2) T4.mem S4 (by omega) hp0 hp1 sd hl hl2 HNW.out hlen
 rw [show ((4 * m + 2 : Nat) : Int) = 4 * (m : Int) + 2 by omega] at CR0
 have CR:=Lib.hid CR0
 clear CR0
 have HT:=Lib.hid T4
 clear S4 T4 M1
 unfold ptr at CR
 go_wp2_with (go_at_call 57;refine CR.out.mono ?_;rintro e w5 ⟨rfl,H5,xa,T5,S5⟩;have R5:=Lib.hid (And.intro (HT.out.trans T5) S5);clear T5 S5)
 go_returns
 exact ⟨by simp,H5,xa,R5.out⟩
theorem open_yes1s (hs : SetIn H a s) (hm : Mem W w H) (hc : s.g1.opn < s.g1.olim) (m : Nat) (hmo : s.g1.opn = m) (hmb : m ≤ 1000000000) (hcl : s.cl = false) (hp0 : 0 ≤ s.peer.sdata) (hp1 : s.peer.sdata ≤ 1073741824) (sd : Nat) (hl : s.loc.sdata = sd) (hl2 : sd ≤ 8192) (hnew : ∀ e ∈ s.ss,e.2.id ≠ 4 * m + 3) (hlen : s.ss.length ≤ 900000) :
  Calls Tryz.prog 18 #[ptr a.sb,.bool true] w fun e w'=>e = .returned (.tuple #[.int .i64 ((4 * m + 3 : Nat) : Int),.int .i64 0]) ∧ ∃ H' xa,To W w' H H' (s.foot a) (SetS.foot { s with g1:=incG s.g1,ss:=insS (xa,newStrm s.cl s.peer.sdata sd (4 * m + 3)) s.ss } a) ∧ SetIn H' a { s with g1:=incG s.g1,ss:=insS (xa,newStrm s.cl s.peer.sdata sd (4 * m + 3)) s.ss }:=by
 have copn : w.cell? ⟨a.sb,22,none⟩ = some (.int .i64 s.g1.opn):=at_whole' (hm.at hs.sb) rfl
 have colim : w.cell? ⟨a.sb,24,none⟩ = some (.int .i64 s.g1.olim):=at_whole' (hm.at hs.sb) rfl
 have ccl : w.cell? ⟨a.sb,0,none⟩ = some (.bool s.cl):=at_whole' (hm.at hs.sb) rfl
 have d0 : (s.g1.olim ≤ (m : Int)) = False:=eq_false (by omega)
 have HH:=Lib.hid (And.intro hs hm)
 rw [hcl] at ccl
 rw [hmo] at copn
 have b1 : bits .or .i64 ((m : Int) * 4) 2 = 4 * (m : Int) + 2:=by
  have:=or4_i64 m 2 (by decide) (by omega)
  rw [Int.mul_comm];rw [show ((2 : Nat) : Int) = 2 from rfl] at this;rw [this];omega
 have b3 : bits .or .i64 (4 * (m : Int) + 2) 1 = 4 * (m : Int) + 3:=by
  have:=or1_i64 (2 * m + 1) (by omega)
  rw [show (2 : Int) * ((2 * m + 1 : Nat) : Int) = 4 * (m : Int) + 2 by omega] at this
  rw [this];omega
 have w1 : IntKind.i64.wrap ((m : Int) + 1) = (m : Int) + 1:=IntWalk.i64_in _ (by omega)
 have HMO:=Lib.hid hmo
 have HCL:=Lib.hid hcl
 have HNW:=Lib.hid hnew
 clear hs hm hc hmo hnew hcl
 unfold ptr
 go_enter Tryz.func18,Tryz.ntmps18
 go_wp2_with fail
 go_quiet (fail)
 have M1:=HH.out.2.same (belowN (Below.refl w.heap.size w) nq)
 have copn : (w.drewN nq).cell? ⟨a.sb,22,none⟩ = some (.int .i64 (m : Int)):=copn
 have ccl : (w.drewN nq).cell? ⟨a.sb,0,none⟩ = some (.bool false):=ccl
 generalize w.drewN nq = w2 at M1 copn ccl ⊢
 have z:=frozen_whole (M1.at HH.out.1.sb) 22
 obtain ⟨H4,S4,T4⟩:=HH.out.1.set M1 (s':={ s with g1:=incG s.g1 }) 22 (.int .i64 ((m : Int) + 1)) (by simp [incG,HMO.out,SetS.cells]) rfl rfl rfl
 have CR0:=create_any a { s with g1:=incG s.g1 } H4 W _ (4 * m + 3) T4.mem S4 (by omega) hp0 hp1 sd hl hl2 HNW.out hlen
 rw [show ((4 * m + 3 : Nat) : Int) = 4 * (m : Int) + 3 by omega] at CR0
 have CR:=Lib.hid CR0
 clear CR0
 have HT:=Lib.hid T4
 clear S4 T4 M1
 unfold ptr at CR
 go_wp2_with (go_at_call 57;refine CR.out.mono ?_;rintro e w5 ⟨rfl,H5,xa,T5,S5⟩;have R5:=Lib.hid (And.intro (HT.out.trans T5) S5);clear T5 S5)
 go_returns
 exact ⟨by simp,H5,xa,R5.out⟩
end
end
section
open Go.RowKit Go.Maps
def Mn (W w : World) (a : SetA) (p : SetP) (R : List (Nat × Obj)) : Prop:=∃ H s,Mem W w H ∧ SetIn H a s ∧ s.pl = p ∧ ∀ x ∈ R,H x.1 = some x.2 ∧ ¬ s.foot a x.1
section
variable {W w w' : World} {H H' : Nat → Option Obj} {a : SetA} {s s' : SetS} {p : SetP} {R : List (Nat × Obj)}
theorem Mn.to (hr : ∀ x ∈ R,H x.1 = some x.2 ∧ ¬ s.foot a x.1) (T : To W w' H H' (s.foot a) (s'.foot a)) (S : SetIn H' a s') (e : s'.pl = p) : Mn W w' a p R:=
 ⟨H',s',T.mem,S,e,fun x hx=>⟨T.kp _ _ (hr x hx).1 (hr x hx).2,fun c=>(T.nw _ c).elim (hr x hx).2 (fun e=>by rw [(hr x hx).1] at e;cases e)⟩⟩
theorem Mn.same (h : Mn W w a p R) (hb : Below w.heap.size w w') : Mn W w' a p R:=by
 obtain ⟨H,s,h1,h2,h3,h4⟩:=h
 exact ⟨H,s,h1.same hb,h2,h3,h4⟩
theorem Mn.below (h : Mn W w a p R) : Below W.heap.size W w:=by
 obtain ⟨H,s,h1,h2,h3,h4⟩:=h
 exact h1.below
theorem Mn.row (h : Mn W w a p R) {x : Nat × Obj} (hx : x ∈ R) : w.heap[x.1]? = some x.2:=by
 obtain ⟨H,s,h1,h2,h3,h4⟩:=h
 exact h1.at (h4 x hx).1
def insP (x : Strm) : List Strm → List Strm
 | []=>[x]
 | y :: l=>if x.id < y.id then x :: y :: l else y :: insP x l
theorem pl_ins (xa : StA) (x : Strm) : ∀ l : List (StA × Strm),(insS (xa,x) l).map (·.2) = insP x (l.map (·.2))
 | []=>rfl
 | y :: l=>by
  unfold insS
  simp only [List.map_cons]
  unfold insP
  by_cases h : x.id < y.2.id
  ·simp only [if_pos h,List.map_cons]
  ·simp only [if_neg h,List.map_cons,pl_ins xa x l]
theorem pl_split {l : List (StA × Strm)} {q1 q2 : List Strm} {x : Strm} (h : l.map (·.2) = q1 ++ x :: q2) : ∃ l1 xa l2,l = l1 ++ (xa,x) :: l2 ∧ l1.map (·.2) = q1 ∧ l2.map (·.2) = q2:=by
 obtain ⟨l1,t,e1,e2,e3⟩:=List.map_eq_append_iff.mp h
 obtain ⟨y,l2,e4,e5,e6⟩:=List.map_eq_cons_iff.mp e3
 refine ⟨l1,y.1,l2,?_,e2,e6⟩
 rw [e1,e4,← e5]
theorem pl_set (q1 q2 : List Strm) (l1 l2 : List (StA × Strm)) (xa : StA) (x : Strm) (h1 : l1.map (·.2) = q1) (h2 : l2.map (·.2) = q2) : (l1 ++ (xa,x) :: l2).map (·.2) = q1 ++ x :: q2:=by
 rw [List.map_append,List.map_cons,h1,h2]
def newP (cl : Bool) (loc peer : Pms) : SetP:=(newSet cl loc peer).pl
theorem mn_new {W w : World} (hb : Below W.heap.size W w) (cl : Bool) (loc peer : Pms) (h1 : pmOk loc = true) (h2 : pmOk peer = true) (h3 : loc.sdata ≤ 8192) :
  Calls Tryz.prog 17 #[.bool cl,.agg loc.cs,.agg peer.cs] w fun e w'=>∃ a : SetA,e = .returned (.tuple #[ptr a.sb,.int .i64 0]) ∧ Mn W w' a (newP cl loc peer) []:=by
 refine (New_ok (Mem.nil hb) cl loc peer h1 h2 h3).mono fun e w' hh=>?_
 obtain ⟨a,rfl,H',T,S⟩:=hh
 exact ⟨a,rfl,H',_,T.mem,S,rfl,fun x hx=>by cases hx⟩
theorem mn_open_no0 (h : Mn W w a p R) (hc : p.g0.olim ≤ p.g0.opn) :
  Calls Tryz.prog 18 #[ptr a.sb,.bool false] w fun e w'=>e = .returned (.tuple #[.int .i64 0,.int .i64 191]) ∧ Mn W w' a { p with g0:=blkG p.g0 } R:=by
 obtain ⟨H,s,hm,hs,rfl,hr⟩:=h
 refine (open_no0 hs hm hc).mono fun e w' hh=>?_
 obtain ⟨rfl,H',T,S⟩:=hh
 exact ⟨rfl,Mn.to hr T S rfl⟩
theorem mn_open_no1 (h : Mn W w a p R) (hc : p.g1.olim ≤ p.g1.opn) :
  Calls Tryz.prog 18 #[ptr a.sb,.bool true] w fun e w'=>e = .returned (.tuple #[.int .i64 0,.int .i64 191]) ∧ Mn W w' a { p with g1:=blkG p.g1 } R:=by
 obtain ⟨H,s,hm,hs,rfl,hr⟩:=h
 refine (open_no1 hs hm hc).mono fun e w' hh=>?_
 obtain ⟨rfl,H',T,S⟩:=hh
 exact ⟨rfl,Mn.to hr T S rfl⟩
theorem ids_pl {n : Nat} (h : ∀ e ∈ s.pl.ss,e.id ≠ n) : ∀ e ∈ s.ss,e.2.id ≠ n:=fun e he=>h e.2 (List.mem_map.mpr ⟨e,he,rfl⟩)
theorem mn_open0c (h : Mn W w a p R) (hc : p.g0.opn < p.g0.olim) (m : Nat) (hmo : p.g0.opn = m) (hmb : m ≤ 1000000000) (hcl : p.cl = true) (hp0 : 0 ≤ p.peer.sdata) (hp1 : p.peer.sdata ≤ 1073741824) (sd : Nat) (hl : p.loc.sdata = sd) (hl2 : sd ≤ 8192) (hnew : ∀ e ∈ p.ss,e.id ≠ 4 * m + 0) (hlen : p.ss.length ≤ 900000) :
  Calls Tryz.prog 18 #[ptr a.sb,.bool false] w fun e w'=>e = .returned (.tuple #[.int .i64 ((4 * m + 0 : Nat) : Int),.int .i64 0]) ∧ Mn W w' a { p with g0:=incG p.g0,ss:=insP (newStrm p.cl p.peer.sdata sd (4 * m + 0)) p.ss } R:=by
 obtain ⟨H,s,hm,hs,rfl,hr⟩:=h
 refine (open_yes0c hs hm hc m hmo hmb hcl hp0 hp1 sd hl hl2 (ids_pl hnew) (by simpa [SetS.pl] using hlen)).mono fun e w' hh=>?_
 obtain ⟨rfl,H',xa,T,S⟩:=hh
 exact ⟨rfl,Mn.to hr T S (by unfold SetS.pl;simp only [pl_ins])⟩
theorem mn_open0s (h : Mn W w a p R) (hc : p.g0.opn < p.g0.olim) (m : Nat) (hmo : p.g0.opn = m) (hmb : m ≤ 1000000000) (hcl : p.cl = false) (hp0 : 0 ≤ p.peer.sdata) (hp1 : p.peer.sdata ≤ 1073741824) (sd : Nat) (hl : p.loc.sdata = sd) (hl2 : sd ≤ 8192) (hnew : ∀ e ∈ p.ss,e.id ≠ 4 * m + 1) (hlen : p.ss.length ≤ 900000) :
  Calls Tryz.prog 18 #[ptr a.sb,.bool false] w fun e w'=>e = .returned (.tuple #[.int .i64 ((4 * m + 1 : Nat) : Int),.int .i64 0]) ∧ Mn W w' a { p with g0:=incG p.g0,ss:=insP (newStrm p.cl p.peer.sdata sd (4 * m + 1)) p.ss } R:=by
 obtain ⟨H,s,hm,hs,rfl,hr⟩:=h
 refine (open_yes0s hs hm hc m hmo hmb hcl hp0 hp1 sd hl hl2 (ids_pl hnew) (by simpa [SetS.pl] using hlen)).mono fun e w' hh=>?_
 obtain ⟨rfl,H',xa,T,S⟩:=hh
 exact ⟨rfl,Mn.to hr T S (by unfold SetS.pl;simp only [pl_ins])⟩
theorem mn_open1c (h : Mn W w a p R) (hc : p.g1.opn < p.g1.olim) (m : Nat) (hmo : p.g1.opn = m) (hmb : m ≤ 1000000000) (hcl : p.cl = true) (hp0 : 0 ≤ p.peer.sdata) (hp1 : p.peer.sdata ≤ 1073741824) (sd : Nat) (hl : p.loc.sdata = sd) (hl2 : sd ≤ 8192) (hnew : ∀ e ∈ p.ss,e.id ≠ 4 * m + 2) (hlen : p.ss.length ≤ 900000) :
  Calls Tryz.prog 18 #[ptr a.sb,.bool true] w fun e w'=>e = .returned (.tuple #[.int .i64 ((4 * m + 2 : Nat) : Int),.int .i64 0]) ∧ Mn W w' a { p with g1:=incG p.g1,ss:=insP (newStrm p.cl p.peer.sdata sd (4 * m + 2)) p.ss } R:=by
 obtain ⟨H,s,hm,hs,rfl,hr⟩:=h
 refine (open_yes1c hs hm hc m hmo hmb hcl hp0 hp1 sd hl hl2 (ids_pl hnew) (by simpa [SetS.pl] using hlen)).mono fun e w' hh=>?_
 obtain ⟨rfl,H',xa,T,S⟩:=hh
 exact ⟨rfl,Mn.to hr T S (by unfold SetS.pl;simp only [pl_ins])⟩
theorem mn_open1s (h : Mn W w a p R) (hc : p.g1.opn < p.g1.olim) (m : Nat) (hmo : p.g1.opn = m) (hmb : m ≤ 1000000000) (hcl : p.cl = false) (hp0 : 0 ≤ p.peer.sdata) (hp1 : p.peer.sdata ≤ 1073741824) (sd : Nat) (hl : p.loc.sdata = sd) (hl2 : sd ≤ 8192) (hnew : ∀ e ∈ p.ss,e.id ≠ 4 * m + 3) (hlen : p.ss.length ≤ 900000) :
  Calls Tryz.prog 18 #[ptr a.sb,.bool true] w fun e w'=>e = .returned (.tuple #[.int .i64 ((4 * m + 3 : Nat) : Int),.int .i64 0]) ∧ Mn W w' a { p with g1:=incG p.g1,ss:=insP (newStrm p.cl p.peer.sdata sd (4 * m + 3)) p.ss } R:=by
 obtain ⟨H,s,hm,hs,rfl,hr⟩:=h
 refine (open_yes1s hs hm hc m hmo hmb hcl hp0 hp1 sd hl hl2 (ids_pl hnew) (by simpa [SetS.pl] using hlen)).mono fun e w' hh=>?_
 obtain ⟨rfl,H',xa,T,S⟩:=hh
 exact ⟨rfl,Mn.to hr T S (by unfold SetS.pl;simp only [pl_ins])⟩
theorem mn_write (h : Mn W w a p R) {q1 q2 : List Strm} {x : Strm} (hq : p.ss = q1 ++ x :: q2) (d : ByteArray) (hd : d.size ≤ maxLen) (hroom : ∀ o,x.out = some o → o.X.S.length + o.X.writeN d ≤ 1125899906842624) :
  Calls Tryz.prog 19 #[ptr a.sb,.int .i64 x.id,.string d] w fun e w'=>e = .returned (.tuple #[.int .i64 (wrN x d : Int),.int .i64 (wcE x)]) ∧ Mn W w' a { p with ss:=q1 ++ wrS x d :: q2 } R:=by
 obtain ⟨H,s,hm,hs,rfl,hr⟩:=h
 obtain ⟨l1,xa,l2,hl,e1,e2⟩:=pl_split (l:=s.ss) hq
 refine (Write_any hs hm hl d hd hroom).mono fun e w' hh=>?_
 obtain ⟨rfl,H',xa',_,T,S⟩:=hh
 exact ⟨rfl,Mn.to hr T S (by unfold SetS.pl;simp only [pl_set q1 q2 l1 l2 _ _ e1 e2])⟩
theorem mn_finish (h : Mn W w a p R) {q1 q2 : List Strm} {x : Strm} (hq : p.ss = q1 ++ x :: q2) :
  Calls Tryz.prog 23 #[ptr a.sb,.int .i64 x.id] w fun e w'=>e = .returned (.int .i64 (wcE x)) ∧ Mn W w' a { p with ss:=q1 ++ fnS x :: q2 } R:=by
 obtain ⟨H,s,hm,hs,rfl,hr⟩:=h
 obtain ⟨l1,xa,l2,hl,e1,e2⟩:=pl_split (l:=s.ss) hq
 refine (Finish_any hs hm hl).mono fun e w' hh=>?_
 obtain ⟨rfl,H',xa',_,T,S⟩:=hh
 exact ⟨rfl,Mn.to hr T S (by unfold SetS.pl;simp only [pl_set q1 q2 l1 l2 _ _ e1 e2])⟩
def FrRow (v : Value) (fs : List Fr) (R : List (Nat × Obj)) : Prop:=
 (v = .slice none 0 0 ∧ fs = [] ∧ R = []) ∨ ∃ (g cap : Nat) (cur : Array Value),v = .slice (some ⟨g,0,none⟩) fs.length cap ∧ R = [(g,.cells cur 38 (0,0))] ∧ cur.toList.take (fs.length * 13) = frs fs
theorem FrRow.cell {v : Value} {fs : List Fr} (h : FrRow v fs R) (h0 : 0 < fs.length) : ∃ g cap o,v = .slice (some ⟨g,0,none⟩) fs.length cap ∧ R = [(g,o)] ∧ ∀ w : World,w.heap[g]? = some o → ∀ (k : Nat) u,(frs fs)[k]? = some u → w.cell? ⟨g,k,none⟩ = some u:=by
 rcases h with ⟨_,rfl,_⟩ | ⟨g,cap,cur,rfl,rfl,h3⟩
 ·cases h0
 refine ⟨g,cap,_,rfl,rfl,fun w hw k u hk=>at_whole' hw ?_⟩
 rw [← h3,List.getElem?_take] at hk
 split at hk
 ·simpa using hk
 ·cases hk
theorem mn_frames (h : Mn W w a p R) (hg : FGood p) (most : Int) (hl0 : -80000 ≤ most) (hl1 : most ≤ 80000) :
  Calls Tryz.prog 21 #[ptr a.sb,.int .i64 most] w fun e w'=>∃ v fs p' R',e = .returned v ∧ FramesP p most p' fs ∧ FGood p' ∧ fs.length ≤ 80000 ∧ FrRow v fs R' ∧ Mn W w' a p' (R' ++ R):=by
 obtain ⟨H,s,hm,hs,rfl,hr⟩:=h
 refine (Frames_any hm hs hg most hl0 hl1).mono fun e w' hh=>?_
 obtain ⟨v,fs,H',s',rfl,h1,h2,h3,S,hv,hd,T⟩:=hh
 have old : ∀ x ∈ R,H' x.1 = some x.2 ∧ ¬ s'.foot a x.1:=fun x hx=>⟨T.kp _ _ (hr x hx).1 (hr x hx).2,fun c=>(T.nw _ (.inl c)).elim (hr x hx).2 (fun e=>by rw [(hr x hx).1] at e;cases e)⟩
 rcases hv.2 with ⟨rfl,e0⟩ | ⟨g,cap,cur,rfl,e1,_,_,_,e2⟩
 ·have : fs = []:=List.length_eq_zero_iff.mp e0
  exact ⟨_,fs,_,[],rfl,h1,h2,h3,.inl ⟨rfl,this,rfl⟩,H',s',T.mem,S,rfl,old⟩
 ·refine ⟨_,fs,_,[(g,.cells cur 38 (0,0))],rfl,h1,h2,h3,.inr ⟨g,cap,cur,rfl,rfl,e2⟩,H',s',T.mem,S,rfl,fun x hx=>?_⟩
  rcases List.mem_append.mp hx with hx | hx
  ·rw [List.mem_singleton] at hx
   subst hx
   exact ⟨e1,hd g rfl⟩
  ·exact old x hx
def accE (cl : Bool) (x : Strm) : Bool:=!isLoc cl x.id && !x.acc
theorem mn_accept_yes (h : Mn W w a p R) (hln : p.ss.length ≤ 100000) {x : Strm} (hf : p.ss.find? (accE p.cl) = some x) :
  Calls Tryz.prog 25 #[ptr a.sb] w fun e w'=>e = .returned (.tuple #[.int .i64 x.id,.bool true]) ∧ ∃ q1 q2,p.ss = q1 ++ x :: q2 ∧ Mn W w' a { p with ss:=q1 ++ { x with acc:=true } :: q2 } R:=by
 obtain ⟨H,s,hm,hs,rfl,hr⟩:=h
 have hf2 : s.pl.ss.find? (accE s.pl.cl) = (s.ss.find? (acE s)).map (·.2):=List.find?_map
 rw [hf2] at hf
 have AC:=Accept_any hm hs (by simpa [SetS.pl] using hln)
 cases hc : s.ss.find? (acE s) with
 | none=>rw [hc] at hf;cases hf
 | some y=>
  rw [hc] at hf AC
  obtain ⟨xa,y⟩:=y
  simp only [Option.map_some,Option.some.injEq] at hf
  subst hf
  refine AC.mono fun e w' hh=>?_
  obtain ⟨rfl,l1,l2,hl,H',T,S⟩:=hh
  exact ⟨rfl,l1.map (·.2),l2.map (·.2),(show s.ss.map (·.2) = _ by rw [hl,List.map_append,List.map_cons]),Mn.to hr T S (by unfold SetS.pl;simp only [pl_set _ _ l1 l2 _ _ rfl rfl])⟩
theorem mn_accept_no (h : Mn W w a p R) (hln : p.ss.length ≤ 100000) (hf : p.ss.find? (accE p.cl) = none) :
  Calls Tryz.prog 25 #[ptr a.sb] w fun e w'=>e = .returned (.tuple #[.int .i64 0,.bool false]) ∧ Mn W w' a p R:=by
 obtain ⟨H,s,hm,hs,rfl,hr⟩:=h
 have hf2 : s.pl.ss.find? (accE s.pl.cl) = (s.ss.find? (acE s)).map (·.2):=List.find?_map
 rw [hf2] at hf
 have AC:=Accept_any hm hs (by simpa [SetS.pl] using hln)
 cases hc : s.ss.find? (acE s) with
 | some y=>rw [hc] at hf;cases hf
 | none=>
  rw [hc] at AC
  refine AC.mono fun e w' hh=>?_
  obtain ⟨rfl,H',T,S⟩:=hh
  exact ⟨rfl,Mn.to hr T S rfl⟩
def grpP (p : SetP) (k : Nat) : Grp:=if k = 0 then p.g0 else p.g1
def setGP (p : SetP) (k : Nat) (g : Grp) : SetP:=if k = 0 then { p with g0:=g } else { p with g1:=g }
def goneP (p : SetP) (id : Nat) (l : List Strm) : SetP:=if isLoc p.cl id then { p with ss:=l } else setGP { p with ss:=l } (kindN id) (stlG (grpP p (kindN id)))
def stlP (p : SetP) (q1 q2 : List Strm) (x : Strm) : SetP:=if x.done then goneP p x.id (q1 ++ q2) else { p with ss:=q1 ++ x :: q2 }
theorem pl_stl (s : SetS) (l1 l2 : List (StA × Strm)) (xa : StA) (x : Strm) : (stlS s l1 l2 xa x).pl = stlP s.pl (l1.map (·.2)) (l2.map (·.2)) x:=by
 have ec : s.pl.cl = s.cl:=rfl
 unfold stlS stlP goneS goneP
 rw [ec]
 cases hd : x.done with
 | false=>
  simp only [Bool.false_eq_true,if_false]
  unfold SetS.pl
  simp only [List.map_append,List.map_cons]
 | true=>
  simp only [if_true]
  cases hl : isLoc s.cl x.id with
  | true=>
   simp only [if_true]
   unfold SetS.pl
   simp only [List.map_append]
  | false=>
   simp only [Bool.false_eq_true,if_false]
   unfold setG setGP grp grpP
   by_cases hk : kindN x.id = 0
   ·simp only [if_pos hk]
    unfold SetS.pl
    simp only [List.map_append]
   ·simp only [if_neg hk]
    unfold SetS.pl
    simp only [List.map_append]
end
end
section
open Go.RowKit
def excB (s : SetS) (i : InP) (e : Int) : Bool:=decide (i.wn.most < e) || decide (s.wn.most < s.tot + max (e - i.cn) 0)
def Rcr.recH (r : Rcr) (n : Int) : Rcr:={ r with hi:=max r.hi n }
theorem Rcr.Ok.recH {r : Rcr} (h : r.Ok) {n : Int} (hn : n ≤ r.most) : (r.recH n).Ok:=by
 obtain ⟨h1,h2,h3,h4,h5,h6⟩:=h
 exact ⟨h1,by show r.rd ≤ max r.hi n;omega,by show max r.hi n ≤ r.most;omega,h4,h5,h6⟩
def cntN (i : InP) (e : Int) : Int:=if i.cn < e then e else i.cn
def cntI (i : InP) (e : Int) : InP:={ i with cn:=cntN i e,wn:=i.wn.recH (cntN i e) }
def cntT (s : SetS) (i : InP) (e : Int) : Int:=s.tot + (cntN i e - i.cn)
def cntS (s : SetS) (i : InP) (e : Int) (L : List (StA × Strm)) : SetS:={ s with ss:=L,tot:=cntT s i e,wn:=s.wn.recH (cntT s i e) }
section
variable {W w w' : World} {H : Nat → Option Obj} {a : SetA} {s : SetS}
theorem lim_all {w : World} {b1 b2 : Nat} {r1 r2 : Rcr} (h1 : RcrAt w b1 r1) (h2 : RcrAt w b2 r2) :
  ∃ lim : Value → Int,lim (.pointer (some ⟨b1,0,none⟩)) = r1.most ∧ lim (.pointer (some ⟨b2,0,none⟩)) = r2.most ∧ ∀ n v,(v = Value.pointer (some ⟨b1,0,none⟩) ∨ v = Value.pointer (some ⟨b2,0,none⟩)) → Calls Tryz.prog 125 #[v] (w.drewN n) fun e w'=>e = .returned (.int .i64 (lim v)) ∧ w.drewN n = w':=by
 have c1 : w.cell? ⟨b1,0,none⟩ = some (.int .i64 r1.most):=at_whole h1 0 rfl
 have c2 : w.cell? ⟨b2,0,none⟩ = some (.int .i64 r2.most):=at_whole h2 0 rfl
 refine ⟨fun v=>match v with | .pointer (some p)=>(match w.cell? ⟨p.block,0,none⟩ with | some (.int _ n)=>n | _=>0) | _=>0,by simp only [c1],by simp only [c2],fun n v hv=>?_⟩
 rcases hv with rfl | rfl
 ·simp only [c1]
  exact limit_any b1 r1 (w.drewN n) h1
 ·simp only [c2]
  exact limit_any b2 r2 (w.drewN n) h2
theorem exceeds_any (hs : SetIn H a s) (hm : Mem W w H) {ia : InA} {i : InP} (hI : InIn H ia i) (e : Int) (he : 0 ≤ e ∧ e ≤ 4611686018427387904) (hc : 0 ≤ i.cn ∧ i.cn ≤ maxOff) (ht : 0 ≤ s.tot ∧ s.tot ≤ maxOff) :
  Calls Tryz.prog 211 #[ptr a.sb,ptr ia.ib,.int .i64 e] w fun r w'=>r = .returned (.bool (excB s i e)) ∧ ∃ n,w' = w.drewN n:=by
 unfold maxOff at hc ht
 have c1 : w.cell? ⟨ia.ib,1,none⟩ = some (.pointer (some ⟨ia.wb,0,none⟩)):=hI.facts hm 1 rfl
 have c7 : w.cell? ⟨ia.ib,7,none⟩ = some (.int .i64 i.cn):=hI.facts hm 7 rfl
 have c31 : w.cell? ⟨a.sb,31,none⟩ = some (.pointer (some ⟨a.wb,0,none⟩)):=at_whole' (hm.at hs.sb) rfl
 have c32 : w.cell? ⟨a.sb,32,none⟩ = some (.int .i64 s.tot):=at_whole' (hm.at hs.sb) rfl
 obtain ⟨q,hq⟩ : ∃ q,max (e - i.cn) 0 = q:=⟨_,rfl⟩
 have m1 : (if e - i.cn < 0 then 0 else e - i.cn) = q:=by split <;> omega
 have m2 : (if 0 < e - i.cn then e - i.cn else 0) = q:=by split <;> omega
 have w1 : IntKind.i64.wrap (e - i.cn) = e - i.cn:=IntWalk.i64_in _ (by omega)
 have w2 : IntKind.i64.wrap (s.tot + q) = s.tot + q:=IntWalk.i64_in _ (by omega)
 unfold excB
 rw [hq]
 obtain ⟨lim,hl1,hl2,hl⟩:=lim_all (hm.at hI.wb) (hm.at hs.wb)
 generalize s.wn.most = M2 at *
 generalize i.wn.most = M1 at *
 generalize s.tot = tt at *
 have LIM:=Lib.hid hl
 have HQ:=Lib.hid hq
 clear hl hs hm hI hq
 unfold ptr
 cases hd : decide (M1 < e) with
 | true=>
  go_enter Tryz.func211,Tryz.ntmps211
  go_wp2_with fail
  go_quiet ((go_at_call 125;exact Calls.quiet_of_same ((LIM.out _ _ (by first | exact .inl rfl | exact .inr rfl)).mono fun _ _ h=>⟨h.1,h.2.symm⟩)))
  go_wp2
  go_returns
  exact ⟨(by first | rfl | (have h:=HQ.out;subst h;rfl)),_,rfl⟩
 | false=>
  go_enter Tryz.func211,Tryz.ntmps211
  go_wp2_with fail
  go_quiet ((go_at_call 125;exact Calls.quiet_of_same ((LIM.out _ _ (by first | exact .inl rfl | exact .inr rfl)).mono fun _ _ h=>⟨h.1,h.2.symm⟩)))
  go_wp2
  go_returns
  exact ⟨(by first | rfl | (have h:=HQ.out;subst h;rfl)),_,rfl⟩
theorem count_any (hs : SetIn H a s) (hm : Mem W w H) {l1 l2 : List (StA × Strm)} {xa : StA} {x : Strm} {i : InP} {ia : InA} (hl : s.ss = l1 ++ (xa,x) :: l2) (hi : x.inp = some i) (h1 : xa.i = some ia) (e : Int) (hc : 0 ≤ i.cn) (ht : 0 ≤ s.tot) (h3 : cntN i e ≤ i.wn.most) (h4 : cntT s i e ≤ s.wn.most) :
  Calls Tryz.prog 213 #[ptr a.sb,ptr ia.ib,.int .i64 e] w fun r w'=>r = .returned (.tuple #[]) ∧ ∃ H' xa',xa'.xb = xa.xb ∧ xa'.i = xa.i ∧ To W w' H H' (s.foot a) (SetS.foot (cntS s i e (l1 ++ (xa',{ x with inp:=some (cntI i e) }) :: l2)) a) ∧ SetIn H' a (cntS s i e (l1 ++ (xa',{ x with inp:=some (cntI i e) }) :: l2)):=by
 have hem : (xa,x) ∈ s.ss:=by rw [hl];simp
 have hx:=hs.li.all _ hem
 have hI : InIn H ia i:=by have ho:=hx.i;simp only [hi,h1] at ho;exact ho
 have c7 : w.cell? ⟨ia.ib,7,none⟩ = some (.int .i64 i.cn):=hI.facts hm 7 rfl
 have z7:=frozen_whole (hm.at hI.ib) 7
 have c32 : w.cell? ⟨a.sb,32,none⟩ = some (.int .i64 s.tot):=at_whole' (hm.at hs.sb) rfl
 have z32:=frozen_whole (hm.at hs.sb) 32
 have b1:=hI.wn.mm
 have b2:=hs.wn.mm
 unfold maxOff at b1 b2
 have HH:=Lib.hid (And.intro hs (And.intro hm (And.intro hl (And.intro hx hI))))
 clear hs hm hl hem hx hI
 unfold ptr
 by_cases hd : i.cn < e
 ·have hN : cntN i e = e:=if_pos hd
  have hT : cntT s i e = s.tot + (e - i.cn):=by unfold cntT;rw [hN]
  rw [hN] at h3
  rw [hT] at h4
  have w1 : IntKind.i64.wrap (e - i.cn) = e - i.cn:=IntWalk.i64_in _ (by omega)
  have w2 : IntKind.i64.wrap (s.tot + (e - i.cn)) = s.tot + (e - i.cn):=IntWalk.i64_in _ (by omega)
  have dd : decide (i.cn < e) = true:=decide_eq_true hd
  have n0 : 0 ≤ e:=by omega
  have t0 : 0 ≤ s.tot + (e - i.cn):=by omega
  have NN:=Lib.hid hN
  have TT:=Lib.hid hT
  clear hd hN hT b1 b2 hc ht
  go_enter Tryz.func213,Tryz.ntmps213
  go_wp2_with fail
  go_region
  obtain ⟨H1,S1,T1⟩:=HH.out.1.set HH.out.2.1 (s':={ s with tot:=s.tot + (e - i.cn) }) 32 (.int .i64 (s.tot + (e - i.cn))) rfl rfl rfl rfl
  have hx1:=S1.li.all (xa,x) (by show (xa,x) ∈ s.ss;rw [HH.out.2.2.1];simp)
  have I1 : InIn H1 ia i:=by have ho:=hx1.i;simp only [hi,h1] at ho;exact ho
  have e7 : ((w.setCell ⟨a.sb,32,none⟩ (.int .i64 (s.tot + (e - i.cn))))).cell? ⟨ia.ib,7,none⟩ = some (.int .i64 i.cn):=I1.facts T1.mem 7 rfl
  have y7:=frozen_whole (T1.mem.at I1.ib) 7
  obtain ⟨H2,I2,T2⟩:=I1.set T1.mem (i':={ i with cn:=e }) 7 (.int .i64 e) rfl rfl rfl
  obtain ⟨X2,TX2⟩:=hx1.turnI h1 hi T2 I2 rfl
  obtain ⟨SS2,TS2⟩:=S1.turnS (l1:=l1) (l2:=l2) T1.mem HH.out.2.2.1 TX2 X2 rfl rfl
  have P0:=Lib.hid (And.intro SS2 ((T1.trans TS2).same bz0.drew))
  clear S1 T1 hx1 I1 I2 T2 X2 TX2 SS2 TS2
  go_upto_region 3 with fail
  generalize ((w.setCell ⟨a.sb,32,none⟩ (.int .i64 (s.tot + (e - i.cn)))).setCell ⟨ia.ib,7,none⟩ (.int .i64 e)).drew = wv at *
  generalize s.tot + (e - i.cn) = T at *
  have P:=P0
  generalize H2 = Hv at *
  clear P0
  clear c7 z7 c32 z32 e7 y7 w1 w2
  have hx4:=P.out.1.li.all ({ xa with i:=some ia },{ x with inp:=some { i with cn:=e } }) (by simp)
  have I4 : InIn Hv ia { i with cn:=e }:=hx4.i
  have d1 : wv.cell? ⟨ia.ib,1,none⟩ = some (.pointer (some ⟨ia.wb,0,none⟩)):=I4.facts P.out.2.mem 1 rfl
  have d7 : wv.cell? ⟨ia.ib,7,none⟩ = some (.int .i64 e):=I4.facts P.out.2.mem 7 rfl
  have BW:=Lib.hid (P.out.2.mem.at I4.wb)
  have RC:=Lib.hid (fun wx hx=>receive_ok ia.wb i.wn e wx hx n0 h3)
  have X4:=Lib.hid (And.intro hx4 I4)
  unfold ptr at RC
  clear hx4 I4
  go_still_tail 8,(by kernel_rfl)
  repeat still_step
  go_upto_region 4 with (go_at_call 271;refine (RC.out _ (by exact BW.out)).mono ?_;rintro e5 w5 ⟨rfl,hB⟩;have G5:=Lib.hid ((Blk.start BW.out).drew.trans hB);clear hB)
  obtain ⟨H5,I5,T5⟩:=X4.out.2.setW P.out.2.mem (r:=i.wn.recH e) G5.out (X4.out.2.wn.recH h3)
  obtain ⟨X5,TX5⟩:=X4.out.1.turnI rfl rfl T5 I5 rfl
  obtain ⟨SS5,TS5⟩:=P.out.1.turnS (l1:=l1) (l2:=l2) P.out.2.mem rfl TX5 X5 rfl rfl
  have d31 : w5.cell? ⟨a.sb,31,none⟩ = some (.pointer (some ⟨a.wb,0,none⟩)):=at_whole' (TS5.mem.at SS5.sb) rfl
  have d32 : w5.cell? ⟨a.sb,32,none⟩ = some (.int .i64 T):=at_whole' (TS5.mem.at SS5.sb) rfl
  have BS:=Lib.hid (TS5.mem.at SS5.wb)
  have RS:=Lib.hid (fun wx hx=>receive_ok a.wb s.wn T wx hx t0 h4)
  have P5:=Lib.hid (And.intro SS5 (P.out.2.trans TS5))
  unfold ptr at RS
  clear SS5 TS5 X5 TX5 I5 T5 d1 d7 RC
  go_still_tail 8,(by kernel_rfl)
  repeat still_step
  go_wp2_with (go_at_call 271;refine (RS.out _ (by exact BS.out)).mono ?_;rintro e6 w6 ⟨rfl,hB⟩;have G6:=Lib.hid ((Blk.start BS.out).drew.trans hB);clear hB)
  obtain ⟨H6,SS6,TS6⟩:=P5.out.1.setW P5.out.2.mem (r:=s.wn.recH T) G6.out (P5.out.1.wn.recH h4)
  have RR:=Lib.hid (show ∃ H' xa',xa'.xb = xa.xb ∧ xa'.i = xa.i ∧ To W w6 H H' (s.foot a) (SetS.foot (cntS s i e (l1 ++ (xa',{ x with inp:=some (cntI i e) }) :: l2)) a) ∧ SetIn H' a (cntS s i e (l1 ++ (xa',{ x with inp:=some (cntI i e) }) :: l2)) from by
   unfold cntS cntI
   rw [NN.out,TT.out]
   exact ⟨H6,{ xa with i:=some ia },rfl,by simp [h1],P5.out.2.trans TS6,SS6⟩)
  clear SS6 TS6
  go_end0
  exact ⟨rfl,RR.out⟩
 ·have hN : cntN i e = i.cn:=if_neg hd
  have hT : cntT s i e = s.tot:=by unfold cntT;rw [hN];omega
  rw [hN] at h3
  rw [hT] at h4
  have dd : decide (i.cn < e) = false:=decide_eq_false hd
  have ea : ({ xa with i:=some ia } : StA) = xa:=by rw [← h1]
  obtain ⟨N,eN⟩ : ∃ N,i.cn = N:=⟨_,rfl⟩
  obtain ⟨T,eT⟩ : ∃ T,s.tot = T:=⟨_,rfl⟩
  have ex : ({ x with inp:=some { i with cn:=N } } : Strm) = x:=by subst eN;show ({ x with inp:=some i } : Strm) = x;rw [← hi]
  have P:=Lib.hid (show SetIn H a { s with ss:=l1 ++ ({ xa with i:=some ia },{ x with inp:=some { i with cn:=N } }) :: l2,tot:=T } ∧ To W w H H (s.foot a) (SetS.foot { s with ss:=l1 ++ ({ xa with i:=some ia },{ x with inp:=some { i with cn:=N } }) :: l2,tot:=T } a) from by
   rw [ea,ex]
   subst eT
   exact HH.out.1.same HH.out.2.1 HH.out.2.2.1)
  rw [eN] at c7 dd h3 hN hc
  rw [eT] at c32 h4 hT ht
  have n0 : 0 ≤ N:=hc
  have t0 : 0 ≤ T:=ht
  have NN:=Lib.hid hN
  have TT:=Lib.hid hT
  clear hd hN hT b1 b2 hc ht ea ex eN eT
  go_enter Tryz.func213,Tryz.ntmps213
  go_upto_region 3 with fail
  have hx4:=P.out.1.li.all ({ xa with i:=some ia },{ x with inp:=some { i with cn:=N } }) (by simp)
  have I4 : InIn H ia { i with cn:=N }:=hx4.i
  have d1 : w.cell? ⟨ia.ib,1,none⟩ = some (.pointer (some ⟨ia.wb,0,none⟩)):=I4.facts P.out.2.mem 1 rfl
  have d7 : w.cell? ⟨ia.ib,7,none⟩ = some (.int .i64 N):=I4.facts P.out.2.mem 7 rfl
  have BW:=Lib.hid (P.out.2.mem.at I4.wb)
  have RC:=Lib.hid (fun wx hx=>receive_ok ia.wb i.wn N wx hx n0 h3)
  have X4:=Lib.hid (And.intro hx4 I4)
  unfold ptr at RC
  clear hx4 I4
  go_still_tail 8,(by kernel_rfl)
  repeat still_step
  go_upto_region 4 with (go_at_call 271;refine (RC.out _ (by exact BW.out)).mono ?_;rintro e5 w5 ⟨rfl,hB⟩;have G5:=Lib.hid ((Blk.start BW.out).drew.trans hB);clear hB)
  obtain ⟨H5,I5,T5⟩:=X4.out.2.setW P.out.2.mem (r:=i.wn.recH N) G5.out (X4.out.2.wn.recH h3)
  obtain ⟨X5,TX5⟩:=X4.out.1.turnI rfl rfl T5 I5 rfl
  obtain ⟨SS5,TS5⟩:=P.out.1.turnS (l1:=l1) (l2:=l2) P.out.2.mem rfl TX5 X5 rfl rfl
  have d31 : w5.cell? ⟨a.sb,31,none⟩ = some (.pointer (some ⟨a.wb,0,none⟩)):=at_whole' (TS5.mem.at SS5.sb) rfl
  have d32 : w5.cell? ⟨a.sb,32,none⟩ = some (.int .i64 T):=at_whole' (TS5.mem.at SS5.sb) rfl
  have BS:=Lib.hid (TS5.mem.at SS5.wb)
  have RS:=Lib.hid (fun wx hx=>receive_ok a.wb s.wn T wx hx t0 h4)
  have P5:=Lib.hid (And.intro SS5 (P.out.2.trans TS5))
  unfold ptr at RS
  clear SS5 TS5 X5 TX5 I5 T5 d1 d7 RC
  go_still_tail 8,(by kernel_rfl)
  repeat still_step
  go_wp2_with (go_at_call 271;refine (RS.out _ (by exact BS.out)).mono ?_;rintro e6 w6 ⟨rfl,hB⟩;have G6:=Lib.hid ((Blk.start BS.out).drew.trans hB);clear hB)
  obtain ⟨H6,SS6,TS6⟩:=P5.out.1.setW P5.out.2.mem (r:=s.wn.recH T) G6.out (P5.out.1.wn.recH h4)
  have RR:=Lib.hid (show ∃ H' xa',xa'.xb = xa.xb ∧ xa'.i = xa.i ∧ To W w6 H H' (s.foot a) (SetS.foot (cntS s i e (l1 ++ (xa',{ x with inp:=some (cntI i e) }) :: l2)) a) ∧ SetIn H' a (cntS s i e (l1 ++ (xa',{ x with inp:=some (cntI i e) }) :: l2)) from by
   unfold cntS cntI
   rw [NN.out,TT.out]
   exact ⟨H6,{ xa with i:=some ia },rfl,by simp [h1],P5.out.2.trans TS6,SS6⟩)
  clear SS6 TS6
  go_end0
  exact ⟨rfl,RR.out⟩
end
end
end Go.Proofs.YthckbmcmdcemkaaGreatDoor.stm
