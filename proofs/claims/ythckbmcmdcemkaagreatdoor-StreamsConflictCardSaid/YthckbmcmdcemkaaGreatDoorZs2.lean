/- Texts of this claim, one behind the other: ZMp ZMk ZMy ZMz. -/
import Derived.Test.YthckbmcmdcemkaaGreatDoorBs23
import Derived.Test.YthckbmcmdcemkaaGreatDoorBs12
import Derived.Test.YthckbmcmdcemkaaGreatDoorBs17
import Derived.Test.YthckbmcmdcemkaaGreatDoorZs1
import Derived.Test.YthckbmcmdcemkaaGreatDoorBs25
import Derived.Test.YthckbmcmdcemkaaGreatDoorBs11
import Derived.Deep.QuietTactic
import Derived.Deep.CutRange
import Derived.Test.YthckbmcmdcemkaaGreatDoorBs39
set_option maxRecDepth 100000
set_option maxHeartbeats 16000000
set_option linter.unusedSimpArgs false
set_option linter.unusedVariables false
namespace Go.Proofs.YthckbmcmdcemkaaGreatDoor.stm
def InP.opn (i : InP) : Bool:=decide (i.recv = 0) || decide (i.recv = 1)
section
open Go.RowKit
section
variable {W w w' : World} {H H' : Nat → Option Obj}
end
section
variable {W w : World} {H : Nat → Option Obj}
theorem open_any {a : InA} {i : InP} (h : InIn H a i) (hm : Mem W w H) : Calls Tryz.prog 85 #[ptr a.ib] w fun e w'=>e = .returned (.bool i.opn) ∧ w = w':=by
 have c2 : w.cell? ⟨a.ib,2,none⟩ = some (.int .i64 i.recv):=h.facts hm 2 rfl
 unfold ptr InP.opn
 clear h hm
 by_cases h3 : i.recv = 0
 ·have e : (i.recv == 0) = true:=beq_iff_eq.2 h3
  have d : decide (i.recv = 0) = true:=decide_eq_true h3
  rw [d]
  clear h3 d
  generalize i.recv = r at *
  go_enter Tryz.func85,Tryz.ntmps85
  go_wp2
  go_ret
  exact ⟨by simp,rfl⟩
 ·have e : (i.recv == 0) = false:=beq_eq_false_iff_ne.2 h3
  have d : decide (i.recv = 0) = false:=decide_eq_false h3
  have e5 : (i.recv == 1) = decide (i.recv = 1):=by rw [Bool.eq_iff_iff];simp
  rw [d,← e5]
  clear h3 d e5
  generalize i.recv = r at *
  go_enter Tryz.func85,Tryz.ntmps85
  go_wp2
  go_ret
  exact ⟨by simp,rfl⟩
end
end
section
open Go.RowKit
def rstS (i : InP) : Int:=if i.wasR then i.fl else i.R.fin
def rstK (i : InP) : Bool:=i.wasR || i.R.kn
def rstE (s : SetS) (i : InP) (m : Int) : Int:=if (rstK i && !(decide (m = rstS i))) || decide (m < i.cn) then 161 else if excB s i m then 150 else 0
section
variable {W w w' : World} {H H' : Nat → Option Obj} {a : SetA} {s : SetS}
theorem onReset_no (hs : SetIn H a s) (hm : Mem W w H) {l1 l2 : List (StA × Strm)} {xa : StA} {x : Strm} {i : InP} (hl : s.ss = l1 ++ (xa,x) :: l2) (hi : x.inp = some i) (f : Fr) (hf : 0 ≤ f.max ∧ f.max ≤ 4611686018427387904) (hc : 0 ≤ i.cn ∧ i.cn ≤ maxOff) (ht : 0 ≤ s.tot ∧ s.tot ≤ maxOff) (hno : rstE s i f.max ≠ 0 ∨ i.opn = false) :
  Calls Tryz.prog 139 #[ptr a.sb,ptr xa.xb,f.val] w fun e w'=>e = .returned (.int .i64 (rstE s i f.max)) ∧ ∃ H',To W w' H H' (s.foot a) (s.foot a) ∧ SetIn H' a s:=by
 obtain ⟨H1,T1,n1⟩:=To.alloc hm (.cells f.cells 38)
 obtain ⟨S1,TS1⟩:=hs.laid T1
 have hx:=S1.li.all (xa,x) (by rw [hl];simp)
 have h0:=hx.i
 simp only [hi] at h0
 obtain ⟨ia,h1,h2⟩:=h0.some_of
 have c2:=hx.c2 TS1.mem
 rw [h1] at c2
 simp only [Option.map_some,optP,ptr] at c2
 have d0 : (w.alloc (.cells f.cells 38)).cell? ⟨ia.ib,0,none⟩ = some (.pointer (some ⟨ia.rb,0,none⟩)):=h2.facts TS1.mem 0 rfl
 have d7 : (w.alloc (.cells f.cells 38)).cell? ⟨ia.ib,7,none⟩ = some (.int .i64 i.cn):=h2.facts TS1.mem 7 rfl
 have d8 : (w.alloc (.cells f.cells 38)).cell? ⟨ia.ib,8,none⟩ = some (.int .i64 i.fl):=h2.facts TS1.mem 8 rfl
 have d5 : (w.alloc (.cells f.cells 38)).cell? ⟨w.heap.size,5,none⟩ = some (.int .i64 f.max):=at_whole (heap_alloc_new w _) 5 rfl
 have FI:=Lib.hid (fun wx (hb : Below (w.alloc (.cells f.cells 38)).heap.size (w.alloc (.cells f.cells 38)) wx)=>final_any (h2.rbAt (TS1.mem.same hb)))
 have WR:=Lib.hid (fun wx (hb : Below (w.alloc (.cells f.cells 38)).heap.size (w.alloc (.cells f.cells 38)) wx)=>wasReset_any h2 (TS1.mem.same hb))
 have OP:=Lib.hid (fun wx (hb : Below (w.alloc (.cells f.cells 38)).heap.size (w.alloc (.cells f.cells 38)) wx)=>open_any h2 (TS1.mem.same hb))
 have EX:=Lib.hid (fun wx (hb : Below (w.alloc (.cells f.cells 38)).heap.size (w.alloc (.cells f.cells 38)) wx)=>exceeds_any S1 (TS1.mem.same hb) h2 f.max hf hc ht)
 have RR:=Lib.hid (fun wx (hb : Below (w.alloc (.cells f.cells 38)).heap.size (w.alloc (.cells f.cells 38)) wx)=>And.intro (TS1.same hb) S1)
 clear hs hm T1 n1 S1 TS1 hl hx h0 h2 h1 hf hc ht hi
 obtain ⟨mx,hmx⟩ : ∃ q,f.max = q:=⟨_,rfl⟩
 rw [hmx] at d5 EX hno ⊢
 unfold rstE rstK rstS at *
 generalize i.wasR = wr at *
 generalize i.R.kn = kn at *
 generalize i.R.fin = fin at *
 generalize i.opn = op at *
 generalize excB s i mx = ex at *
 generalize i.fl = fl at *
 generalize i.cn = cn at *
 unfold Fr.val
 unfold ptr at *
 cases wr with
 | true=>
  by_cases hq : mx = fl
  ·subst hq
   have hall : decide (mx = mx) = true:=decide_eq_true rfl
   have hb : (mx == mx) = true:=beq_iff_eq.2 rfl
   cases hlt : decide (mx < cn) with
   | true=>
    simp only [hall,Bool.true_or,Bool.false_or,Bool.or_true,Bool.not_true,Bool.and_false,Bool.false_and,Bool.or_false,Bool.true_and,if_true,if_false,Bool.false_eq_true]
    clear hno
    go_enter Tryz.func139,Tryz.ntmps139
    go_upto_region 2 with fail
    generalize w.alloc (.cells f.cells 38) = wv at *
    generalize w.heap.size = n at *
    go_upto_region 6 with (first
     | (go_at_call 214;refine (FI.out _ (by first | exact bz0 | exact bz1 | exact bz2 | exact bz3)).mono ?_;rintro e w1 ⟨rfl,q1,rfl⟩)
     | (go_at_call 210;refine (WR.out _ (by first | exact bz0 | exact bz1 | exact bz2 | exact bz3)).mono ?_;rintro e w1 ⟨rfl,rfl⟩)
     | (go_at_call 85;refine (OP.out _ (by first | exact bz0 | exact bz1 | exact bz2 | exact bz3)).mono ?_;rintro e w1 ⟨rfl,rfl⟩)
     | (go_at_call 211;refine (EX.out _ (by first | exact bz0 | exact bz1 | exact bz2 | exact bz3)).mono ?_;rintro e w1 ⟨rfl,q2,rfl⟩))
    go_quiet (fail)
    go_wp2_with (first
     | (go_at_call 214;refine (FI.out _ (by first | exact bz0 | exact bz1 | exact bz2 | exact bz3)).mono ?_;rintro e w1 ⟨rfl,q1,rfl⟩)
     | (go_at_call 210;refine (WR.out _ (by first | exact bz0 | exact bz1 | exact bz2 | exact bz3)).mono ?_;rintro e w1 ⟨rfl,rfl⟩)
     | (go_at_call 85;refine (OP.out _ (by first | exact bz0 | exact bz1 | exact bz2 | exact bz3)).mono ?_;rintro e w1 ⟨rfl,rfl⟩)
     | (go_at_call 211;refine (EX.out _ (by first | exact bz0 | exact bz1 | exact bz2 | exact bz3)).mono ?_;rintro e w1 ⟨rfl,q2,rfl⟩))
    go_ret
    exact ⟨rfl,H1,RR.out _ (by first | exact bz0 | exact bz1 | exact bz2 | exact bz3)⟩
   | false=>
    cases hex : ex with
    | true=>
     rw [hex] at EX
     simp only [hall,Bool.true_or,Bool.false_or,Bool.or_true,Bool.not_true,Bool.and_false,Bool.false_and,Bool.or_false,Bool.true_and,if_true,if_false,Bool.false_eq_true]
     clear hno hex
     go_enter Tryz.func139,Tryz.ntmps139
     go_upto_region 2 with fail
     generalize w.alloc (.cells f.cells 38) = wv at *
     generalize w.heap.size = n at *
     go_upto_region 6 with (first
      | (go_at_call 214;refine (FI.out _ (by first | exact bz0 | exact bz1 | exact bz2 | exact bz3)).mono ?_;rintro e w1 ⟨rfl,q1,rfl⟩)
      | (go_at_call 210;refine (WR.out _ (by first | exact bz0 | exact bz1 | exact bz2 | exact bz3)).mono ?_;rintro e w1 ⟨rfl,rfl⟩)
      | (go_at_call 85;refine (OP.out _ (by first | exact bz0 | exact bz1 | exact bz2 | exact bz3)).mono ?_;rintro e w1 ⟨rfl,rfl⟩)
      | (go_at_call 211;refine (EX.out _ (by first | exact bz0 | exact bz1 | exact bz2 | exact bz3)).mono ?_;rintro e w1 ⟨rfl,q2,rfl⟩))
     go_quiet (fail)
     go_wp2_with (first
      | (go_at_call 214;refine (FI.out _ (by first | exact bz0 | exact bz1 | exact bz2 | exact bz3)).mono ?_;rintro e w1 ⟨rfl,q1,rfl⟩)
      | (go_at_call 210;refine (WR.out _ (by first | exact bz0 | exact bz1 | exact bz2 | exact bz3)).mono ?_;rintro e w1 ⟨rfl,rfl⟩)
      | (go_at_call 85;refine (OP.out _ (by first | exact bz0 | exact bz1 | exact bz2 | exact bz3)).mono ?_;rintro e w1 ⟨rfl,rfl⟩)
      | (go_at_call 211;refine (EX.out _ (by first | exact bz0 | exact bz1 | exact bz2 | exact bz3)).mono ?_;rintro e w1 ⟨rfl,q2,rfl⟩))
     go_ret
     exact ⟨rfl,H1,RR.out _ (by first | exact bz0 | exact bz1 | exact bz2 | exact bz3)⟩
    | false=>
     cases hop : op with
     | true=>
      simp [hlt,hex,hop,hall] at hno
     | false=>
      rw [hex] at EX
      rw [hop] at OP
      simp only [hall,Bool.true_or,Bool.false_or,Bool.or_true,Bool.not_true,Bool.and_false,Bool.false_and,Bool.or_false,Bool.true_and,if_true,if_false,Bool.false_eq_true]
      clear hno hex hop
      go_enter Tryz.func139,Tryz.ntmps139
      go_upto_region 2 with fail
      generalize w.alloc (.cells f.cells 38) = wv at *
      generalize w.heap.size = n at *
      go_upto_region 6 with (first
       | (go_at_call 214;refine (FI.out _ (by first | exact bz0 | exact bz1 | exact bz2 | exact bz3)).mono ?_;rintro e w1 ⟨rfl,q1,rfl⟩)
       | (go_at_call 210;refine (WR.out _ (by first | exact bz0 | exact bz1 | exact bz2 | exact bz3)).mono ?_;rintro e w1 ⟨rfl,rfl⟩)
       | (go_at_call 85;refine (OP.out _ (by first | exact bz0 | exact bz1 | exact bz2 | exact bz3)).mono ?_;rintro e w1 ⟨rfl,rfl⟩)
       | (go_at_call 211;refine (EX.out _ (by first | exact bz0 | exact bz1 | exact bz2 | exact bz3)).mono ?_;rintro e w1 ⟨rfl,q2,rfl⟩))
      go_quiet (fail)
      go_wp2_with (first
       | (go_at_call 214;refine (FI.out _ (by first | exact bz0 | exact bz1 | exact bz2 | exact bz3)).mono ?_;rintro e w1 ⟨rfl,q1,rfl⟩)
       | (go_at_call 210;refine (WR.out _ (by first | exact bz0 | exact bz1 | exact bz2 | exact bz3)).mono ?_;rintro e w1 ⟨rfl,rfl⟩)
       | (go_at_call 85;refine (OP.out _ (by first | exact bz0 | exact bz1 | exact bz2 | exact bz3)).mono ?_;rintro e w1 ⟨rfl,rfl⟩)
       | (go_at_call 211;refine (EX.out _ (by first | exact bz0 | exact bz1 | exact bz2 | exact bz3)).mono ?_;rintro e w1 ⟨rfl,q2,rfl⟩))
      go_ret
      exact ⟨rfl,H1,RR.out _ (by first | exact bz0 | exact bz1 | exact bz2 | exact bz3)⟩
  ·have hall : decide (mx = fl) = false:=decide_eq_false hq
   have hb : (mx == fl) = false:=beq_eq_false_iff_ne.2 hq
   simp only [hall,Bool.true_or,Bool.not_false,Bool.true_and,Bool.true_or,if_true]
   clear hq hno hall
   go_enter Tryz.func139,Tryz.ntmps139
   go_upto_region 2 with fail
   generalize w.alloc (.cells f.cells 38) = wv at *
   generalize w.heap.size = n at *
   go_wp2_with (first
    | (go_at_call 214;refine (FI.out _ (by first | exact bz0 | exact bz1 | exact bz2 | exact bz3)).mono ?_;rintro e w1 ⟨rfl,q1,rfl⟩)
    | (go_at_call 210;refine (WR.out _ (by first | exact bz0 | exact bz1 | exact bz2 | exact bz3)).mono ?_;rintro e w1 ⟨rfl,rfl⟩)
    | (go_at_call 85;refine (OP.out _ (by first | exact bz0 | exact bz1 | exact bz2 | exact bz3)).mono ?_;rintro e w1 ⟨rfl,rfl⟩)
    | (go_at_call 211;refine (EX.out _ (by first | exact bz0 | exact bz1 | exact bz2 | exact bz3)).mono ?_;rintro e w1 ⟨rfl,q2,rfl⟩))
   go_ret
   exact ⟨rfl,H1,RR.out _ (by first | exact bz0 | exact bz1 | exact bz2 | exact bz3)⟩
 | false=>
  cases kn with
  | true=>
   by_cases hq : mx = fin
   ·subst hq
    have hall : decide (mx = mx) = true:=decide_eq_true rfl
    have hb : (mx == mx) = true:=beq_iff_eq.2 rfl
    cases hlt : decide (mx < cn) with
    | true=>
     simp only [hall,Bool.true_or,Bool.false_or,Bool.or_true,Bool.not_true,Bool.and_false,Bool.false_and,Bool.or_false,Bool.true_and,if_true,if_false,Bool.false_eq_true]
     clear hno
     go_enter Tryz.func139,Tryz.ntmps139
     go_upto_region 2 with fail
     generalize w.alloc (.cells f.cells 38) = wv at *
     generalize w.heap.size = n at *
     go_upto_region 6 with (first
      | (go_at_call 214;refine (FI.out _ (by first | exact bz0 | exact bz1 | exact bz2 | exact bz3)).mono ?_;rintro e w1 ⟨rfl,q1,rfl⟩)
      | (go_at_call 210;refine (WR.out _ (by first | exact bz0 | exact bz1 | exact bz2 | exact bz3)).mono ?_;rintro e w1 ⟨rfl,rfl⟩)
      | (go_at_call 85;refine (OP.out _ (by first | exact bz0 | exact bz1 | exact bz2 | exact bz3)).mono ?_;rintro e w1 ⟨rfl,rfl⟩)
      | (go_at_call 211;refine (EX.out _ (by first | exact bz0 | exact bz1 | exact bz2 | exact bz3)).mono ?_;rintro e w1 ⟨rfl,q2,rfl⟩))
     go_quiet (fail)
     go_wp2_with (first
      | (go_at_call 214;refine (FI.out _ (by first | exact bz0 | exact bz1 | exact bz2 | exact bz3)).mono ?_;rintro e w1 ⟨rfl,q1,rfl⟩)
      | (go_at_call 210;refine (WR.out _ (by first | exact bz0 | exact bz1 | exact bz2 | exact bz3)).mono ?_;rintro e w1 ⟨rfl,rfl⟩)
      | (go_at_call 85;refine (OP.out _ (by first | exact bz0 | exact bz1 | exact bz2 | exact bz3)).mono ?_;rintro e w1 ⟨rfl,rfl⟩)
      | (go_at_call 211;refine (EX.out _ (by first | exact bz0 | exact bz1 | exact bz2 | exact bz3)).mono ?_;rintro e w1 ⟨rfl,q2,rfl⟩))
     go_ret
     exact ⟨rfl,H1,RR.out _ (by first | exact bz0 | exact bz1 | exact bz2 | exact bz3)⟩
    | false=>
     cases hex : ex with
     | true=>
      rw [hex] at EX
      simp only [hall,Bool.true_or,Bool.false_or,Bool.or_true,Bool.not_true,Bool.and_false,Bool.false_and,Bool.or_false,Bool.true_and,if_true,if_false,Bool.false_eq_true]
      clear hno hex
      go_enter Tryz.func139,Tryz.ntmps139
      go_upto_region 2 with fail
      generalize w.alloc (.cells f.cells 38) = wv at *
      generalize w.heap.size = n at *
      go_upto_region 6 with (first
       | (go_at_call 214;refine (FI.out _ (by first | exact bz0 | exact bz1 | exact bz2 | exact bz3)).mono ?_;rintro e w1 ⟨rfl,q1,rfl⟩)
       | (go_at_call 210;refine (WR.out _ (by first | exact bz0 | exact bz1 | exact bz2 | exact bz3)).mono ?_;rintro e w1 ⟨rfl,rfl⟩)
       | (go_at_call 85;refine (OP.out _ (by first | exact bz0 | exact bz1 | exact bz2 | exact bz3)).mono ?_;rintro e w1 ⟨rfl,rfl⟩)
       | (go_at_call 211;refine (EX.out _ (by first | exact bz0 | exact bz1 | exact bz2 | exact bz3)).mono ?_;rintro e w1 ⟨rfl,q2,rfl⟩))
      go_quiet (fail)
      go_wp2_with (first
       | (go_at_call 214;refine (FI.out _ (by first | exact bz0 | exact bz1 | exact bz2 | exact bz3)).mono ?_;rintro e w1 ⟨rfl,q1,rfl⟩)
       | (go_at_call 210;refine (WR.out _ (by first | exact bz0 | exact bz1 | exact bz2 | exact bz3)).mono ?_;rintro e w1 ⟨rfl,rfl⟩)
       | (go_at_call 85;refine (OP.out _ (by first | exact bz0 | exact bz1 | exact bz2 | exact bz3)).mono ?_;rintro e w1 ⟨rfl,rfl⟩)
       | (go_at_call 211;refine (EX.out _ (by first | exact bz0 | exact bz1 | exact bz2 | exact bz3)).mono ?_;rintro e w1 ⟨rfl,q2,rfl⟩))
      go_ret
      exact ⟨rfl,H1,RR.out _ (by first | exact bz0 | exact bz1 | exact bz2 | exact bz3)⟩
     | false=>
      cases hop : op with
      | true=>
       simp [hlt,hex,hop,hall] at hno
      | false=>
       rw [hex] at EX
       rw [hop] at OP
       simp only [hall,Bool.true_or,Bool.false_or,Bool.or_true,Bool.not_true,Bool.and_false,Bool.false_and,Bool.or_false,Bool.true_and,if_true,if_false,Bool.false_eq_true]
       clear hno hex hop
       go_enter Tryz.func139,Tryz.ntmps139
       go_upto_region 2 with fail
       generalize w.alloc (.cells f.cells 38) = wv at *
       generalize w.heap.size = n at *
       go_upto_region 6 with (first
        | (go_at_call 214;refine (FI.out _ (by first | exact bz0 | exact bz1 | exact bz2 | exact bz3)).mono ?_;rintro e w1 ⟨rfl,q1,rfl⟩)
        | (go_at_call 210;refine (WR.out _ (by first | exact bz0 | exact bz1 | exact bz2 | exact bz3)).mono ?_;rintro e w1 ⟨rfl,rfl⟩)
        | (go_at_call 85;refine (OP.out _ (by first | exact bz0 | exact bz1 | exact bz2 | exact bz3)).mono ?_;rintro e w1 ⟨rfl,rfl⟩)
        | (go_at_call 211;refine (EX.out _ (by first | exact bz0 | exact bz1 | exact bz2 | exact bz3)).mono ?_;rintro e w1 ⟨rfl,q2,rfl⟩))
       go_quiet (fail)
       go_wp2_with (first
        | (go_at_call 214;refine (FI.out _ (by first | exact bz0 | exact bz1 | exact bz2 | exact bz3)).mono ?_;rintro e w1 ⟨rfl,q1,rfl⟩)
        | (go_at_call 210;refine (WR.out _ (by first | exact bz0 | exact bz1 | exact bz2 | exact bz3)).mono ?_;rintro e w1 ⟨rfl,rfl⟩)
        | (go_at_call 85;refine (OP.out _ (by first | exact bz0 | exact bz1 | exact bz2 | exact bz3)).mono ?_;rintro e w1 ⟨rfl,rfl⟩)
        | (go_at_call 211;refine (EX.out _ (by first | exact bz0 | exact bz1 | exact bz2 | exact bz3)).mono ?_;rintro e w1 ⟨rfl,q2,rfl⟩))
       go_ret
       exact ⟨rfl,H1,RR.out _ (by first | exact bz0 | exact bz1 | exact bz2 | exact bz3)⟩
   ·have hall : decide (mx = fin) = false:=decide_eq_false hq
    have hb : (mx == fin) = false:=beq_eq_false_iff_ne.2 hq
    simp only [hall,Bool.true_or,Bool.false_or,Bool.or_true,Bool.not_true,Bool.not_false,Bool.and_true,Bool.and_false,Bool.false_and,Bool.or_false,Bool.true_and,if_true,if_false,Bool.false_eq_true]
    clear hq hno hall
    go_enter Tryz.func139,Tryz.ntmps139
    go_upto_region 2 with fail
    generalize w.alloc (.cells f.cells 38) = wv at *
    generalize w.heap.size = n at *
    go_wp2_with (first
     | (go_at_call 214;refine (FI.out _ (by first | exact bz0 | exact bz1 | exact bz2 | exact bz3)).mono ?_;rintro e w1 ⟨rfl,q1,rfl⟩)
     | (go_at_call 210;refine (WR.out _ (by first | exact bz0 | exact bz1 | exact bz2 | exact bz3)).mono ?_;rintro e w1 ⟨rfl,rfl⟩)
     | (go_at_call 85;refine (OP.out _ (by first | exact bz0 | exact bz1 | exact bz2 | exact bz3)).mono ?_;rintro e w1 ⟨rfl,rfl⟩)
     | (go_at_call 211;refine (EX.out _ (by first | exact bz0 | exact bz1 | exact bz2 | exact bz3)).mono ?_;rintro e w1 ⟨rfl,q2,rfl⟩))
    go_ret
    exact ⟨rfl,H1,RR.out _ (by first | exact bz0 | exact bz1 | exact bz2 | exact bz3)⟩
  | false=>
   have hall : True:=trivial
   cases hlt : decide (mx < cn) with
   | true=>
    simp only [hall,Bool.true_or,Bool.false_or,Bool.or_true,Bool.not_true,Bool.and_false,Bool.false_and,Bool.or_false,Bool.true_and,if_true,if_false,Bool.false_eq_true]
    clear hno
    go_enter Tryz.func139,Tryz.ntmps139
    go_upto_region 2 with fail
    generalize w.alloc (.cells f.cells 38) = wv at *
    generalize w.heap.size = n at *
    go_upto_region 6 with (first
     | (go_at_call 214;refine (FI.out _ (by first | exact bz0 | exact bz1 | exact bz2 | exact bz3)).mono ?_;rintro e w1 ⟨rfl,q1,rfl⟩)
     | (go_at_call 210;refine (WR.out _ (by first | exact bz0 | exact bz1 | exact bz2 | exact bz3)).mono ?_;rintro e w1 ⟨rfl,rfl⟩)
     | (go_at_call 85;refine (OP.out _ (by first | exact bz0 | exact bz1 | exact bz2 | exact bz3)).mono ?_;rintro e w1 ⟨rfl,rfl⟩)
     | (go_at_call 211;refine (EX.out _ (by first | exact bz0 | exact bz1 | exact bz2 | exact bz3)).mono ?_;rintro e w1 ⟨rfl,q2,rfl⟩))
    go_quiet (fail)
    go_wp2_with (first
     | (go_at_call 214;refine (FI.out _ (by first | exact bz0 | exact bz1 | exact bz2 | exact bz3)).mono ?_;rintro e w1 ⟨rfl,q1,rfl⟩)
     | (go_at_call 210;refine (WR.out _ (by first | exact bz0 | exact bz1 | exact bz2 | exact bz3)).mono ?_;rintro e w1 ⟨rfl,rfl⟩)
     | (go_at_call 85;refine (OP.out _ (by first | exact bz0 | exact bz1 | exact bz2 | exact bz3)).mono ?_;rintro e w1 ⟨rfl,rfl⟩)
     | (go_at_call 211;refine (EX.out _ (by first | exact bz0 | exact bz1 | exact bz2 | exact bz3)).mono ?_;rintro e w1 ⟨rfl,q2,rfl⟩))
    go_ret
    exact ⟨rfl,H1,RR.out _ (by first | exact bz0 | exact bz1 | exact bz2 | exact bz3)⟩
   | false=>
    cases hex : ex with
    | true=>
     rw [hex] at EX
     simp only [hall,Bool.true_or,Bool.false_or,Bool.or_true,Bool.not_true,Bool.and_false,Bool.false_and,Bool.or_false,Bool.true_and,if_true,if_false,Bool.false_eq_true]
     clear hno hex
     go_enter Tryz.func139,Tryz.ntmps139
     go_upto_region 2 with fail
     generalize w.alloc (.cells f.cells 38) = wv at *
     generalize w.heap.size = n at *
     go_upto_region 6 with (first
      | (go_at_call 214;refine (FI.out _ (by first | exact bz0 | exact bz1 | exact bz2 | exact bz3)).mono ?_;rintro e w1 ⟨rfl,q1,rfl⟩)
      | (go_at_call 210;refine (WR.out _ (by first | exact bz0 | exact bz1 | exact bz2 | exact bz3)).mono ?_;rintro e w1 ⟨rfl,rfl⟩)
      | (go_at_call 85;refine (OP.out _ (by first | exact bz0 | exact bz1 | exact bz2 | exact bz3)).mono ?_;rintro e w1 ⟨rfl,rfl⟩)
      | (go_at_call 211;refine (EX.out _ (by first | exact bz0 | exact bz1 | exact bz2 | exact bz3)).mono ?_;rintro e w1 ⟨rfl,q2,rfl⟩))
     go_quiet (fail)
     go_wp2_with (first
      | (go_at_call 214;refine (FI.out _ (by first | exact bz0 | exact bz1 | exact bz2 | exact bz3)).mono ?_;rintro e w1 ⟨rfl,q1,rfl⟩)
      | (go_at_call 210;refine (WR.out _ (by first | exact bz0 | exact bz1 | exact bz2 | exact bz3)).mono ?_;rintro e w1 ⟨rfl,rfl⟩)
      | (go_at_call 85;refine (OP.out _ (by first | exact bz0 | exact bz1 | exact bz2 | exact bz3)).mono ?_;rintro e w1 ⟨rfl,rfl⟩)
      | (go_at_call 211;refine (EX.out _ (by first | exact bz0 | exact bz1 | exact bz2 | exact bz3)).mono ?_;rintro e w1 ⟨rfl,q2,rfl⟩))
     go_ret
     exact ⟨rfl,H1,RR.out _ (by first | exact bz0 | exact bz1 | exact bz2 | exact bz3)⟩
    | false=>
     cases hop : op with
     | true=>
      simp [hlt,hex,hop,hall] at hno
     | false=>
      rw [hex] at EX
      rw [hop] at OP
      simp only [hall,Bool.true_or,Bool.false_or,Bool.or_true,Bool.not_true,Bool.and_false,Bool.false_and,Bool.or_false,Bool.true_and,if_true,if_false,Bool.false_eq_true]
      clear hno hex hop
      go_enter Tryz.func139,Tryz.ntmps139
      go_upto_region 2 with fail
      generalize w.alloc (.cells f.cells 38) = wv at *
      generalize w.heap.size = n at *
      go_upto_region 6 with (first
       | (go_at_call 214;refine (FI.out _ (by first | exact bz0 | exact bz1 | exact bz2 | exact bz3)).mono ?_;rintro e w1 ⟨rfl,q1,rfl⟩)
       | (go_at_call 210;refine (WR.out _ (by first | exact bz0 | exact bz1 | exact bz2 | exact bz3)).mono ?_;rintro e w1 ⟨rfl,rfl⟩)
       | (go_at_call 85;refine (OP.out _ (by first | exact bz0 | exact bz1 | exact bz2 | exact bz3)).mono ?_;rintro e w1 ⟨rfl,rfl⟩)
       | (go_at_call 211;refine (EX.out _ (by first | exact bz0 | exact bz1 | exact bz2 | exact bz3)).mono ?_;rintro e w1 ⟨rfl,q2,rfl⟩))
      go_quiet (fail)
      go_wp2_with (first
       | (go_at_call 214;refine (FI.out _ (by first | exact bz0 | exact bz1 | exact bz2 | exact bz3)).mono ?_;rintro e w1 ⟨rfl,q1,rfl⟩)
       | (go_at_call 210;refine (WR.out _ (by first | exact bz0 | exact bz1 | exact bz2 | exact bz3)).mono ?_;rintro e w1 ⟨rfl,rfl⟩)
       | (go_at_call 85;refine (OP.out _ (by first | exact bz0 | exact bz1 | exact bz2 | exact bz3)).mono ?_;rintro e w1 ⟨rfl,rfl⟩)
       | (go_at_call 211;refine (EX.out _ (by first | exact bz0 | exact bz1 | exact bz2 | exact bz3)).mono ?_;rintro e w1 ⟨rfl,q2,rfl⟩))
      go_ret
      exact ⟨rfl,H1,RR.out _ (by first | exact bz0 | exact bz1 | exact bz2 | exact bz3)⟩
end
end
section
open Go.RowKit
def rstI (i : InP) (m c : Int) : InP:=if i.stp then (({ cntI i m with fl:=m,rc:=c } : InP).on 9).on 10 else ({ cntI i m with fl:=m,rc:=c } : InP).on 9
def rstT (s : SetS) (i : InP) (m : Int) (L : List (StA × Strm)) : SetS:={ cntS s i m L with wn:=(cntS s i m L).wn.read (m - i.R.at_) }
section
variable {W w w' : World} {H H' : Nat → Option Obj} {a : SetA} {s : SetS}
theorem onReset_yes (hs : SetIn H a s) (hm : Mem W w H) {l1 l2 : List (StA × Strm)} {xa : StA} {x : Strm} {i : InP} (hl : s.ss = l1 ++ (xa,x) :: l2) (hi : x.inp = some i) (f : Fr) (hf : 0 ≤ f.max ∧ f.max ≤ 4611686018427387904) (hc : 0 ≤ i.cn ∧ i.cn ≤ maxOff) (ht : 0 ≤ s.tot ∧ s.tot ≤ maxOff) (hE : rstE s i f.max = 0) (ho : i.opn = true) (hat : i.R.at_ ≤ 1125899906842624) :
  Calls Tryz.prog 139 #[ptr a.sb,ptr xa.xb,f.val] w fun e w'=>e = .returned (.int .i64 0) ∧ ∃ H' xa',xa'.xb = xa.xb ∧ To W w' H H' (s.foot a) (SetS.foot (rstT s i f.max (l1 ++ (xa',{ x with inp:=some (rstI i f.max f.code) }) :: l2)) a) ∧ SetIn H' a (rstT s i f.max (l1 ++ (xa',{ x with inp:=some (rstI i f.max f.code) }) :: l2)):=by
 have hwr : i.wasR = false:=by
  unfold InP.opn at ho
  unfold InP.wasR
  simp only [Bool.or_eq_true,decide_eq_true_eq] at ho
  rcases ho with h | h <;> simp [h]
 have hle : i.cn ≤ f.max:=by
  unfold rstE at hE
  by_cases h : i.cn ≤ f.max
  ·exact h
  ·rw [show decide (f.max < i.cn) = true from decide_eq_true (by omega),Bool.or_true,if_pos rfl] at hE
   omega
 have hex : excB s i f.max = false:=by
  unfold rstE at hE
  cases h : excB s i f.max with
  | false=>rfl
  | true=>
   rw [h] at hE
   split at hE
   ·omega
   ·simp at hE
 have hkn : (i.R.kn && !decide (f.max = i.R.fin)) = false:=by
  unfold rstE rstK rstS at hE
  rw [hwr] at hE
  cases h : (i.R.kn && !decide (f.max = i.R.fin)) with
  | false=>rfl
  | true=>simp [h] at hE
 have hN0 : cntN i f.max = f.max:=by unfold cntN;split <;> omega
 have hex2:=hex
 unfold excB at hex2
 simp only [Bool.or_eq_false_iff,decide_eq_false_iff_not] at hex2
 have hN : cntN i f.max ≤ i.wn.most:=by rw [hN0];omega
 have hT : cntT s i f.max ≤ s.wn.most:=by unfold cntT;rw [hN0];omega
 obtain ⟨H1,T1,n1⟩:=To.alloc hm (.cells f.cells 38)
 obtain ⟨S1,TS1⟩:=hs.laid T1
 have hx:=S1.li.all (xa,x) (by rw [hl];simp)
 have h0:=hx.i
 simp only [hi] at h0
 obtain ⟨ia,h1,h2⟩:=h0.some_of
 have c2:=hx.c2 TS1.mem
 rw [h1] at c2
 simp only [Option.map_some,optP,ptr] at c2
 have d0 : (w.alloc (.cells f.cells 38)).cell? ⟨ia.ib,0,none⟩ = some (.pointer (some ⟨ia.rb,0,none⟩)):=h2.facts TS1.mem 0 rfl
 have d7 : (w.alloc (.cells f.cells 38)).cell? ⟨ia.ib,7,none⟩ = some (.int .i64 i.cn):=h2.facts TS1.mem 7 rfl
 have d8 : (w.alloc (.cells f.cells 38)).cell? ⟨ia.ib,8,none⟩ = some (.int .i64 i.fl):=h2.facts TS1.mem 8 rfl
 have d5 : (w.alloc (.cells f.cells 38)).cell? ⟨w.heap.size,5,none⟩ = some (.int .i64 f.max):=at_whole (heap_alloc_new w _) 5 rfl
 have FI:=Lib.hid (fun wx (hb : Below (w.alloc (.cells f.cells 38)).heap.size (w.alloc (.cells f.cells 38)) wx)=>final_any (h2.rbAt (TS1.mem.same hb)))
 have WR:=Lib.hid (fun wx (hb : Below (w.alloc (.cells f.cells 38)).heap.size (w.alloc (.cells f.cells 38)) wx)=>wasReset_any h2 (TS1.mem.same hb))
 have OP:=Lib.hid (fun wx (hb : Below (w.alloc (.cells f.cells 38)).heap.size (w.alloc (.cells f.cells 38)) wx)=>open_any h2 (TS1.mem.same hb))
 have EX:=Lib.hid (fun wx (hb : Below (w.alloc (.cells f.cells 38)).heap.size (w.alloc (.cells f.cells 38)) wx)=>exceeds_any S1 (TS1.mem.same hb) h2 f.max hf hc ht)
 have RR:=Lib.hid (fun wx (hb : Below (w.alloc (.cells f.cells 38)).heap.size (w.alloc (.cells f.cells 38)) wx)=>And.intro (TS1.same hb) S1)
 have CN:=Lib.hid (fun wx (hb : Below (w.alloc (.cells f.cells 38)).heap.size (w.alloc (.cells f.cells 38)) wx)=>count_any S1 (TS1.mem.same hb) hl hi h1 f.max hc.1 ht.1 hN hT)
 have OF:=Lib.hid (fun (H5 : Nat → Option Obj) (i5 : InP) (h5 : InIn H5 ia i5) wx (hm5 : Mem W wx H5)=>(offset_any (h5.rbAt hm5)).mono (fun _ _ h=>And.intro h.1 h.2.symm))
 have HFm:=Lib.hid hf
 have NB:=Lib.hid (show H1 w.heap.size = some (.cells f.cells 38 (0,0)) from n1)
 have FT:=Lib.hid (show ∀ k,s.foot a k → k ≠ w.heap.size from fun k hk e=>by
  obtain ⟨o,ho⟩:=hs.dom hk
  have:=heap_lt (hm.at ho)
  omega)
 clear hs hm T1 n1 S1 TS1 hl hx h0 h2 hf hc ht hN hT
 have dlt : decide (f.max < i.cn) = false:=decide_eq_false (by omega)
 rw [hex] at EX
 rw [hwr] at WR
 rw [ho] at OP
 clear hE ho hwr hle hex hN0 hex2
 obtain ⟨mx,hmx⟩ : ∃ q,f.max = q:=⟨_,rfl⟩
 rw [hmx] at d5 EX CN dlt hkn ⊢
 obtain ⟨cd,hcd⟩ : ∃ q,f.code = q:=⟨_,rfl⟩
 rw [hcd]
 have KN : Hid ((i.R.kn = true ∧ mx = i.R.fin) ∨ i.R.kn = false):=Lib.hid (by
  cases h : i.R.kn with
  | false=>exact .inr rfl
  | true=>
   rw [h] at hkn
   simp only [Bool.true_and,Bool.not_eq_false',decide_eq_true_eq] at hkn
   exact .inl ⟨rfl,hkn⟩)
 clear hkn
 generalize hgc : i.cn = cn at *
 generalize hgk : i.R.kn = kn at *
 generalize hgf : i.R.fin = fin at *
 unfold Fr.val
 unfold ptr at *
 rcases KN.out with ⟨k1,k2⟩ | k1
 ·subst k1
  subst k2
  have hb : (mx == mx) = true:=beq_iff_eq.2 rfl
  go_enter Tryz.func139,Tryz.ntmps139
  go_upto_region 2 with fail
  generalize hwv : w.alloc (.cells f.cells 38) = wv at *
  generalize hn : w.heap.size = n at *
  go_upto_region 6 with (first
   | (go_at_call 214;refine (FI.out _ (by first | exact bz0 | exact bz1 | exact bz2 | exact bz3)).mono ?_;rintro e w1 ⟨rfl,q1,rfl⟩)
   | (go_at_call 210;refine (WR.out _ (by first | exact bz0 | exact bz1 | exact bz2 | exact bz3)).mono ?_;rintro e w1 ⟨rfl,rfl⟩)
   | (go_at_call 85;refine (OP.out _ (by first | exact bz0 | exact bz1 | exact bz2 | exact bz3)).mono ?_;rintro e w1 ⟨rfl,rfl⟩)
   | (go_at_call 211;refine (EX.out _ (by first | exact bz0 | exact bz1 | exact bz2 | exact bz3)).mono ?_;rintro e w1 ⟨rfl,q2,rfl⟩))
  go_quiet (fail)
  go_upto_region 12 with (first
   | (go_at_call 214;refine (FI.out _ (by first | exact bz0 | exact bz1 | exact bz2 | exact bz3)).mono ?_;rintro e w1 ⟨rfl,q1,rfl⟩)
   | (go_at_call 210;refine (WR.out _ (by first | exact bz0 | exact bz1 | exact bz2 | exact bz3)).mono ?_;rintro e w1 ⟨rfl,rfl⟩)
   | (go_at_call 85;refine (OP.out _ (by first | exact bz0 | exact bz1 | exact bz2 | exact bz3)).mono ?_;rintro e w1 ⟨rfl,rfl⟩)
   | (go_at_call 211;refine (EX.out _ (by first | exact bz0 | exact bz1 | exact bz2 | exact bz3)).mono ?_;rintro e w1 ⟨rfl,q2,rfl⟩))
  go_upto_region 13 with (go_at_call 213;refine (CN.out _ (by first | exact bz0 | exact bz1 | exact bz2 | exact bz3)).mono ?_;rintro e w5 ⟨rfl,hh⟩;have G5:=Lib.hid hh;clear hh)
  obtain ⟨H5,xa5,e5,i5,T5,S5⟩:=G5.out
  have hx5:=S5.li.all (xa5,{ x with inp:=some (cntI i mx) }) (by show _ ∈ (cntS s i mx _).ss;simp [cntS])
  have h5:=hx5.i
  simp only [i5,h1] at h5
  have h5 : InIn H5 ia (cntI i mx):=h5
  have n5 : H5 n = some (.cells f.cells 38 (0,0)):=T5.kp n _ NB.out (fun c=>FT.out _ c rfl)
  have p5 : w5.cell? ⟨n,5,none⟩ = some (.int .i64 mx):=at_whole' (T5.mem.at n5) (by rw [← hmx];rfl)
  have p31 : w5.cell? ⟨a.sb,31,none⟩ = some (.pointer (some ⟨a.wb,0,none⟩)):=at_whole' (T5.mem.at S5.sb) rfl
  have p0 : w5.cell? ⟨ia.ib,0,none⟩ = some (.pointer (some ⟨ia.rb,0,none⟩)):=h5.facts T5.mem 0 rfl
  have hf9:=HFm.out
  rw [hmx] at hf9
  have hws : IntKind.i64.wrap (mx - (i.R.at_ : Int)) = mx - (i.R.at_ : Int):=IntWalk.i64_in _ (by omega)
  have hrd : mx - (i.R.at_ : Int) ≤ 9223372036854775807:=by omega
  have OFF : Hid (∀ wx,Mem W wx H5 → Calls Tryz.prog 81 #[ptr ia.rb] wx fun e w'=>e = .returned (.int .i64 i.R.at_) ∧ w' = wx):=Lib.hid (fun wx hb=>OF.out H5 _ h5 wx hb)
  have RDD:=Lib.hid (readR_any a.wb (s.wn.recH (cntT s i mx)) (mx - (i.R.at_ : Int)) w5.drew (T5.mem.drew.at S5.wb) S5.wn hrd)
  have P5:=Lib.hid (And.intro S5 (And.intro (RR.out _ bz0) (And.intro T5 (And.intro hx5 (And.intro h5 n5)))))
  unfold ptr at OFF RDD
  clear S5 T5 hx5 h5 n5 G5 hrd hf9
  clear CN EX FI WR OP d0 d7 d8 d5 c2
  go_still_tail 12,(by kernel_rfl)
  repeat (first | still_step | still_call (OFF.out _ P5.out.2.2.1.mem.drew))
  refine wpStill_nil ?_
  go_upto_region 14 with (go_at_call 146;refine RDD.out.mono ?_;rintro e w6 ⟨rfl,hB⟩;have G6:=Lib.hid ((Blk.start (P5.out.2.2.1.mem.at P5.out.1.wb)).drew.trans hB);clear hB)
  have hok : ((s.wn.recH (cntT s i mx)).read (mx - (i.R.at_ : Int))).Ok:=Rcr.Ok.read (show (s.wn.recH (cntT s i mx)).Ok from P5.out.1.wn) _
  obtain ⟨H6,S6,T6⟩:=P5.out.1.setW (r:=(s.wn.recH (cntT s i mx)).read (mx - (i.R.at_ : Int))) P5.out.2.2.1.mem G6.out hok
  have S6 : SetIn H6 a (rstT s i mx (l1 ++ (xa5,{ x with inp:=some (cntI i mx) }) :: l2)):=S6
  have T6 : To W w6 H5 H6 ((cntS s i mx (l1 ++ (xa5,{ x with inp:=some (cntI i mx) }) :: l2)).foot a) ((rstT s i mx (l1 ++ (xa5,{ x with inp:=some (cntI i mx) }) :: l2)).foot a):=T6
  have hx6:=S6.li.all (xa5,{ x with inp:=some (cntI i mx) }) (by show _ ∈ (rstT s i mx _).ss;simp [rstT,cntS])
  have h6:=hx6.i
  simp only [i5,h1] at h6
  have h6 : InIn H6 ia (cntI i mx):=h6
  have nf : ¬ (cntS s i mx (l1 ++ (xa5,{ x with inp:=some (cntI i mx) }) :: l2)).foot a n:=fun c=>by
   have q:=P5.out.1
   rcases P5.out.2.2.1.nw n c with c | c
   ·exact FT.out n c rfl
   ·rw [NB.out] at c;exact absurd c (by simp)
  have n6 : H6 n = some (.cells f.cells 38 (0,0)):=T6.kp n _ P5.out.2.2.2.2.2 nf
  have r5 : w6.cell? ⟨n,5,none⟩ = some (.int .i64 mx):=at_whole' (T6.mem.at n6) (by rw [← hmx];rfl)
  have r6 : w6.cell? ⟨n,6,none⟩ = some (.int .i64 cd):=at_whole' (T6.mem.at n6) (by rw [← hcd];rfl)
  have r8 : w6.cell? ⟨ia.ib,8,none⟩ = some (.int .i64 i.fl):=h6.facts T6.mem 8 rfl
  have r9 : w6.cell? ⟨ia.ib,9,none⟩ = some (.int .i64 i.rc):=h6.facts T6.mem 9 rfl
  have z8:=frozen_whole (T6.mem.at h6.ib) 8
  have z9:=frozen_whole (T6.mem.at h6.ib) 9
  have nn : n ≠ ia.ib:=tne n6 h6.ib (by decide)
  have P6:=Lib.hid (And.intro S6 (And.intro T6 (And.intro hx6 (And.intro h6 n6))))
  clear S6 T6 hx6 h6 n6 nf p5 p31 p0
  clear OFF RDD hok G6 hws
  go_region
  obtain ⟨H7,I7,T7⟩:=P6.out.2.2.2.1.set P6.out.2.1.mem (i':={ cntI i mx with fl:=mx }) 8 (.int .i64 mx) rfl rfl rfl
  obtain ⟨H8,I8,T8⟩:=I7.set T7.mem (i':={ cntI i mx with fl:=mx,rc:=cd }) 9 (.int .i64 cd) rfl rfl rfl
  have T8:=(T7.trans T8).same bz0.drew
  generalize ((w6.setCell ⟨ia.ib,8,none⟩ (.int .i64 mx)).setCell ⟨ia.ib,9,none⟩ (.int .i64 cd)).drew = w8 at *
  have ON:=Lib.hid (onI_any I8 T8.mem 9)
  have Q8:=Lib.hid (And.intro T8 I8)
  unfold ptr at ON
  clear I7 T7 I8 T8 r5 r6 r8 r9 z8 z9
  go_upto_region 16 with (go_at_call 75;refine ON.out.mono ?_;rintro e w9 ⟨rfl,H9,hO,hT⟩;have G9:=Lib.hid (And.intro hO hT);clear hO hT)
  have t3 : w9.cell? ⟨ia.ib,3,none⟩ = some (.bool i.stp):=G9.out.1.facts G9.out.2.mem 3 rfl
  have ON2:=Lib.hid (onI_any G9.out.1 G9.out.2.mem 10)
  unfold ptr at ON2
  clear ON
  cases hst : i.stp with
  | false=>
   rw [hst] at t3
   obtain ⟨X9,TX9⟩:=P6.out.2.2.1.turnI (i5.trans h1) rfl (Q8.out.1.trans G9.out.2) G9.out.1 rfl
   obtain ⟨SSX,TSX⟩:=P6.out.1.turnS (l1:=l1) (l2:=l2) P6.out.2.1.mem rfl TX9 X9 rfl rfl
   have RRR:=Lib.hid (show ∃ H' xa',xa'.xb = xa.xb ∧ To W w9 H H' (s.foot a) (SetS.foot (rstT s i mx (l1 ++ (xa',{ x with inp:=some (rstI i mx cd) }) :: l2)) a) ∧ SetIn H' a (rstT s i mx (l1 ++ (xa',{ x with inp:=some (rstI i mx cd) }) :: l2)) from by
    rw [show rstI i mx cd = ({ cntI i mx with fl:=mx,rc:=cd } : InP).on 9 from by unfold rstI;rw [hst];rfl]
    exact ⟨_,{ xa5 with i:=some ia },e5,((P5.out.2.1.1.trans P5.out.2.2.1).trans P6.out.2.1).trans TSX,SSX⟩)
   clear X9 TX9 SSX TSX hst
   go_wp2
   go_ret
   exact ⟨rfl,RRR.out⟩
  | true=>
   rw [hst] at t3
   go_upto_region 18 with (go_at_call 75;refine ON2.out.mono ?_;rintro e wa ⟨rfl,Ha,hO,hT⟩;have Ga:=Lib.hid (And.intro hO hT);clear hO hT)
   obtain ⟨X9,TX9⟩:=P6.out.2.2.1.turnI (i5.trans h1) rfl ((Q8.out.1.trans G9.out.2).trans Ga.out.2) Ga.out.1 rfl
   obtain ⟨SSX,TSX⟩:=P6.out.1.turnS (l1:=l1) (l2:=l2) P6.out.2.1.mem rfl TX9 X9 rfl rfl
   have RRR:=Lib.hid (show ∃ H' xa',xa'.xb = xa.xb ∧ To W wa H H' (s.foot a) (SetS.foot (rstT s i mx (l1 ++ (xa',{ x with inp:=some (rstI i mx cd) }) :: l2)) a) ∧ SetIn H' a (rstT s i mx (l1 ++ (xa',{ x with inp:=some (rstI i mx cd) }) :: l2)) from by
    rw [show rstI i mx cd = (({ cntI i mx with fl:=mx,rc:=cd } : InP).on 9).on 10 from by unfold rstI;rw [hst];rfl]
    exact ⟨_,{ xa5 with i:=some ia },e5,((P5.out.2.1.1.trans P5.out.2.2.1).trans P6.out.2.1).trans TSX,SSX⟩)
   clear X9 TX9 SSX TSX hst
   go_wp2
   go_ret
   exact ⟨rfl,RRR.out⟩
 ·subst k1
  go_enter Tryz.func139,Tryz.ntmps139
  go_upto_region 2 with fail
  generalize hwv : w.alloc (.cells f.cells 38) = wv at *
  generalize hn : w.heap.size = n at *
  go_upto_region 6 with (first
   | (go_at_call 214;refine (FI.out _ (by first | exact bz0 | exact bz1 | exact bz2 | exact bz3)).mono ?_;rintro e w1 ⟨rfl,q1,rfl⟩)
   | (go_at_call 210;refine (WR.out _ (by first | exact bz0 | exact bz1 | exact bz2 | exact bz3)).mono ?_;rintro e w1 ⟨rfl,rfl⟩)
   | (go_at_call 85;refine (OP.out _ (by first | exact bz0 | exact bz1 | exact bz2 | exact bz3)).mono ?_;rintro e w1 ⟨rfl,rfl⟩)
   | (go_at_call 211;refine (EX.out _ (by first | exact bz0 | exact bz1 | exact bz2 | exact bz3)).mono ?_;rintro e w1 ⟨rfl,q2,rfl⟩))
  go_quiet (fail)
  go_upto_region 12 with (first
   | (go_at_call 214;refine (FI.out _ (by first | exact bz0 | exact bz1 | exact bz2 | exact bz3)).mono ?_;rintro e w1 ⟨rfl,q1,rfl⟩)
   | (go_at_call 210;refine (WR.out _ (by first | exact bz0 | exact bz1 | exact bz2 | exact bz3)).mono ?_;rintro e w1 ⟨rfl,rfl⟩)
   | (go_at_call 85;refine (OP.out _ (by first | exact bz0 | exact bz1 | exact bz2 | exact bz3)).mono ?_;rintro e w1 ⟨rfl,rfl⟩)
   | (go_at_call 211;refine (EX.out _ (by first | exact bz0 | exact bz1 | exact bz2 | exact bz3)).mono ?_;rintro e w1 ⟨rfl,q2,rfl⟩))
  go_upto_region 13 with (go_at_call 213;refine (CN.out _ (by first | exact bz0 | exact bz1 | exact bz2 | exact bz3)).mono ?_;rintro e w5 ⟨rfl,hh⟩;have G5:=Lib.hid hh;clear hh)
  obtain ⟨H5,xa5,e5,i5,T5,S5⟩:=G5.out
  have hx5:=S5.li.all (xa5,{ x with inp:=some (cntI i mx) }) (by show _ ∈ (cntS s i mx _).ss;simp [cntS])
  have h5:=hx5.i
  simp only [i5,h1] at h5
  have h5 : InIn H5 ia (cntI i mx):=h5
  have n5 : H5 n = some (.cells f.cells 38 (0,0)):=T5.kp n _ NB.out (fun c=>FT.out _ c rfl)
  have p5 : w5.cell? ⟨n,5,none⟩ = some (.int .i64 mx):=at_whole' (T5.mem.at n5) (by rw [← hmx];rfl)
  have p31 : w5.cell? ⟨a.sb,31,none⟩ = some (.pointer (some ⟨a.wb,0,none⟩)):=at_whole' (T5.mem.at S5.sb) rfl
  have p0 : w5.cell? ⟨ia.ib,0,none⟩ = some (.pointer (some ⟨ia.rb,0,none⟩)):=h5.facts T5.mem 0 rfl
  have hf9:=HFm.out
  rw [hmx] at hf9
  have hws : IntKind.i64.wrap (mx - (i.R.at_ : Int)) = mx - (i.R.at_ : Int):=IntWalk.i64_in _ (by omega)
  have hrd : mx - (i.R.at_ : Int) ≤ 9223372036854775807:=by omega
  have OFF : Hid (∀ wx,Mem W wx H5 → Calls Tryz.prog 81 #[ptr ia.rb] wx fun e w'=>e = .returned (.int .i64 i.R.at_) ∧ w' = wx):=Lib.hid (fun wx hb=>OF.out H5 _ h5 wx hb)
  have RDD:=Lib.hid (readR_any a.wb (s.wn.recH (cntT s i mx)) (mx - (i.R.at_ : Int)) w5.drew (T5.mem.drew.at S5.wb) S5.wn hrd)
  have P5:=Lib.hid (And.intro S5 (And.intro (RR.out _ bz0) (And.intro T5 (And.intro hx5 (And.intro h5 n5)))))
  unfold ptr at OFF RDD
  clear S5 T5 hx5 h5 n5 G5 hrd hf9
  clear CN EX FI WR OP d0 d7 d8 d5 c2
  go_still_tail 12,(by kernel_rfl)
  repeat (first | still_step | still_call (OFF.out _ P5.out.2.2.1.mem.drew))
  refine wpStill_nil ?_
  go_upto_region 14 with (go_at_call 146;refine RDD.out.mono ?_;rintro e w6 ⟨rfl,hB⟩;have G6:=Lib.hid ((Blk.start (P5.out.2.2.1.mem.at P5.out.1.wb)).drew.trans hB);clear hB)
  have hok : ((s.wn.recH (cntT s i mx)).read (mx - (i.R.at_ : Int))).Ok:=Rcr.Ok.read (show (s.wn.recH (cntT s i mx)).Ok from P5.out.1.wn) _
  obtain ⟨H6,S6,T6⟩:=P5.out.1.setW (r:=(s.wn.recH (cntT s i mx)).read (mx - (i.R.at_ : Int))) P5.out.2.2.1.mem G6.out hok
  have S6 : SetIn H6 a (rstT s i mx (l1 ++ (xa5,{ x with inp:=some (cntI i mx) }) :: l2)):=S6
  have T6 : To W w6 H5 H6 ((cntS s i mx (l1 ++ (xa5,{ x with inp:=some (cntI i mx) }) :: l2)).foot a) ((rstT s i mx (l1 ++ (xa5,{ x with inp:=some (cntI i mx) }) :: l2)).foot a):=T6
  have hx6:=S6.li.all (xa5,{ x with inp:=some (cntI i mx) }) (by show _ ∈ (rstT s i mx _).ss;simp [rstT,cntS])
  have h6:=hx6.i
  simp only [i5,h1] at h6
  have h6 : InIn H6 ia (cntI i mx):=h6
  have nf : ¬ (cntS s i mx (l1 ++ (xa5,{ x with inp:=some (cntI i mx) }) :: l2)).foot a n:=fun c=>by
   have q:=P5.out.1
   rcases P5.out.2.2.1.nw n c with c | c
   ·exact FT.out n c rfl
   ·rw [NB.out] at c;exact absurd c (by simp)
  have n6 : H6 n = some (.cells f.cells 38 (0,0)):=T6.kp n _ P5.out.2.2.2.2.2 nf
  have r5 : w6.cell? ⟨n,5,none⟩ = some (.int .i64 mx):=at_whole' (T6.mem.at n6) (by rw [← hmx];rfl)
  have r6 : w6.cell? ⟨n,6,none⟩ = some (.int .i64 cd):=at_whole' (T6.mem.at n6) (by rw [← hcd];rfl)
  have r8 : w6.cell? ⟨ia.ib,8,none⟩ = some (.int .i64 i.fl):=h6.facts T6.mem 8 rfl
  have r9 : w6.cell? ⟨ia.ib,9,none⟩ = some (.int .i64 i.rc):=h6.facts T6.mem 9 rfl
  have z8:=frozen_whole (T6.mem.at h6.ib) 8
  have z9:=frozen_whole (T6.mem.at h6.ib) 9
  have nn : n ≠ ia.ib:=tne n6 h6.ib (by decide)
  have P6:=Lib.hid (And.intro S6 (And.intro T6 (And.intro hx6 (And.intro h6 n6))))
  clear S6 T6 hx6 h6 n6 nf p5 p31 p0
  clear OFF RDD hok G6 hws
  go_region
  obtain ⟨H7,I7,T7⟩:=P6.out.2.2.2.1.set P6.out.2.1.mem (i':={ cntI i mx with fl:=mx }) 8 (.int .i64 mx) rfl rfl rfl
  obtain ⟨H8,I8,T8⟩:=I7.set T7.mem (i':={ cntI i mx with fl:=mx,rc:=cd }) 9 (.int .i64 cd) rfl rfl rfl
  have T8:=(T7.trans T8).same bz0.drew
  generalize ((w6.setCell ⟨ia.ib,8,none⟩ (.int .i64 mx)).setCell ⟨ia.ib,9,none⟩ (.int .i64 cd)).drew = w8 at *
  have ON:=Lib.hid (onI_any I8 T8.mem 9)
  have Q8:=Lib.hid (And.intro T8 I8)
  unfold ptr at ON
  clear I7 T7 I8 T8 r5 r6 r8 r9 z8 z9
  go_upto_region 16 with (go_at_call 75;refine ON.out.mono ?_;rintro e w9 ⟨rfl,H9,hO,hT⟩;have G9:=Lib.hid (And.intro hO hT);clear hO hT)
  have t3 : w9.cell? ⟨ia.ib,3,none⟩ = some (.bool i.stp):=G9.out.1.facts G9.out.2.mem 3 rfl
  have ON2:=Lib.hid (onI_any G9.out.1 G9.out.2.mem 10)
  unfold ptr at ON2
  clear ON
  cases hst : i.stp with
  | false=>
   rw [hst] at t3
   obtain ⟨X9,TX9⟩:=P6.out.2.2.1.turnI (i5.trans h1) rfl (Q8.out.1.trans G9.out.2) G9.out.1 rfl
   obtain ⟨SSX,TSX⟩:=P6.out.1.turnS (l1:=l1) (l2:=l2) P6.out.2.1.mem rfl TX9 X9 rfl rfl
   have RRR:=Lib.hid (show ∃ H' xa',xa'.xb = xa.xb ∧ To W w9 H H' (s.foot a) (SetS.foot (rstT s i mx (l1 ++ (xa',{ x with inp:=some (rstI i mx cd) }) :: l2)) a) ∧ SetIn H' a (rstT s i mx (l1 ++ (xa',{ x with inp:=some (rstI i mx cd) }) :: l2)) from by
    rw [show rstI i mx cd = ({ cntI i mx with fl:=mx,rc:=cd } : InP).on 9 from by unfold rstI;rw [hst];rfl]
    exact ⟨_,{ xa5 with i:=some ia },e5,((P5.out.2.1.1.trans P5.out.2.2.1).trans P6.out.2.1).trans TSX,SSX⟩)
   clear X9 TX9 SSX TSX hst
   go_wp2
   go_ret
   exact ⟨rfl,RRR.out⟩
  | true=>
   rw [hst] at t3
   go_upto_region 18 with (go_at_call 75;refine ON2.out.mono ?_;rintro e wa ⟨rfl,Ha,hO,hT⟩;have Ga:=Lib.hid (And.intro hO hT);clear hO hT)
   obtain ⟨X9,TX9⟩:=P6.out.2.2.1.turnI (i5.trans h1) rfl ((Q8.out.1.trans G9.out.2).trans Ga.out.2) Ga.out.1 rfl
   obtain ⟨SSX,TSX⟩:=P6.out.1.turnS (l1:=l1) (l2:=l2) P6.out.2.1.mem rfl TX9 X9 rfl rfl
   have RRR:=Lib.hid (show ∃ H' xa',xa'.xb = xa.xb ∧ To W wa H H' (s.foot a) (SetS.foot (rstT s i mx (l1 ++ (xa',{ x with inp:=some (rstI i mx cd) }) :: l2)) a) ∧ SetIn H' a (rstT s i mx (l1 ++ (xa',{ x with inp:=some (rstI i mx cd) }) :: l2)) from by
    rw [show rstI i mx cd = (({ cntI i mx with fl:=mx,rc:=cd } : InP).on 9).on 10 from by unfold rstI;rw [hst];rfl]
    exact ⟨_,{ xa5 with i:=some ia },e5,((P5.out.2.1.1.trans P5.out.2.2.1).trans P6.out.2.1).trans TSX,SSX⟩)
   clear X9 TX9 SSX TSX hst
   go_wp2
   go_ret
   exact ⟨rfl,RRR.out⟩
end
end
end Go.Proofs.YthckbmcmdcemkaaGreatDoor.stm
