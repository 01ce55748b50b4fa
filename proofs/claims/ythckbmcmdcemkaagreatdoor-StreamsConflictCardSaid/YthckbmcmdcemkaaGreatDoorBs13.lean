/- Texts of this claim, one behind the other: Rpa Rpb Rpc Rpd Rgd. -/
import Derived.Test.YthckbmcmdcemkaaGreatDoorBs1
import Derived.StillTailTactics
import Derived.BigQuiet
import Derived.Lib.Hide
import Derived.Deep.QuietTactic
import Derived.Deep.OwnRows
import Derived.RangeFuncNested
import Derived.RangeFuncBound
import Derived.RangeFuncCalls
import Derived.RangeFuncLeaves
import Derived.RangeFuncBox
import Derived.Shelf.Abstract
import Derived.Shelf.RegionOpen
import Derived.WalkKit
import Derived.OwnWalkIn
import Derived.TacticsInMore
import Derived.LoopNIn
import Derived.LoopIn
import Derived.Laws.EntriesVeiled
import Derived.Stop.RegionWithIn
set_option maxRecDepth 100000
set_option maxHeartbeats 16000000
set_option linter.unusedSimpArgs false
set_option linter.unusedVariables false
namespace Go.Proofs.YthckbmcmdcemkaaGreatDoor.rea
abbrev gd (l : List Int) (j : Nat) : Int:=l[j]?.getD 0
theorem ext_gd {l m : List Int} (hl : l.length = m.length) (h : ∀ j,j < l.length → gd l j = gd m j) : l = m:=by
 apply List.ext_getElem hl
 intro j h1 h2
 have:=h j h1
 simpa [gd,h1,h2] using this
theorem gd_set (l : List Int) (k j : Nat) (v : Int) (h : k < l.length) : gd (l.set k v) j = if j = k then v else gd l j:=by
 unfold gd
 rw [List.getElem?_set]
 by_cases e : k = j
 ·subst e;simp [h]
 ·rw [if_neg e,if_neg (fun h=>e h.symm)]
def hg (l : List Bool) (j : Nat) : Bool:=l[j]?.getD false
theorem hg_set (l : List Bool) (k j : Nat) (v : Bool) (h : k < l.length) : hg (l.set k v) j = if j = k then v else hg l j:=by
 unfold hg
 rw [List.getElem?_set]
 by_cases e : k = j
 ·subst e;simp [h]
 ·rw [if_neg e,if_neg (fun h=>e h.symm)]
theorem ext_hg {l m : List Bool} (hl : l.length = m.length) (h : ∀ j,j < l.length → hg l j = hg m j) : l = m:=by
 apply List.ext_getElem hl
 intro j h1 h2
 have:=h j h1
 simpa [hg,h1,h2] using this
def putB (a off : Int) (s : List Int) (i : Nat) (bs : List Int) : List Int:=(List.range bs.length).map fun (k : Nat)=>if off ≤ a + (k : Int) ∧ a + (k : Int) < off + (i : Int) then gd s (a + (k : Int) - off).toNat else gd bs k
def putH (a off : Int) (i : Nat) (hs : List Bool) : List Bool:=(List.range hs.length).map fun (k : Nat)=>decide (off ≤ a + (k : Int) ∧ a + (k : Int) < off + (i : Int)) || hg hs k
theorem putB_length (a off : Int) (s : List Int) (i : Nat) (bs : List Int) : (putB a off s i bs).length = bs.length:=by simp [putB]
theorem putH_length (a off : Int) (i : Nat) (hs : List Bool) : (putH a off i hs).length = hs.length:=by simp [putH]
theorem gd_putB (a off : Int) (s : List Int) (i : Nat) (bs : List Int) (k : Nat) (h : k < bs.length) : gd (putB a off s i bs) k = if off ≤ a + (k : Int) ∧ a + (k : Int) < off + (i : Int) then gd s (a + (k : Int) - off).toNat else gd bs k:=by simp [gd,putB,h]
theorem hg_putH (a off : Int) (i : Nat) (hs : List Bool) (k : Nat) (h : k < hs.length) : hg (putH a off i hs) k = (decide (off ≤ a + (k : Int) ∧ a + (k : Int) < off + (i : Int)) || hg hs k):=by simp [hg,putH,h]
def ovA (a off : Int) : Nat:=(a - off).toNat
def ovB (a off : Int) (w n : Nat) : Nat:=max (ovA a off) (min n (a + (w : Int) - off).toNat)
theorem putB_start (a off : Int) (s : List Int) (bs : List Int) : putB a off s (ovA a off) bs = bs:=by
 refine ext_gd (putB_length _ _ _ _ _) (fun j hj=>?_)
 rw [putB_length] at hj
 rw [gd_putB _ _ _ _ _ _ hj,if_neg]
 unfold ovA;omega
theorem putH_start (a off : Int) (hs : List Bool) : putH a off (ovA a off) hs = hs:=by
 refine ext_hg (putH_length _ _ _ _) (fun j hj=>?_)
 rw [putH_length] at hj
 rw [hg_putH _ _ _ _ _ hj,decide_eq_false,Bool.false_or]
 unfold ovA;omega
theorem putB_succ (a off : Int) (s : List Int) (i : Nat) (bs : List Int) (k : Nat) (h : off + (i : Int) = a + (k : Int)) (hk : k < bs.length) : putB a off s (i + 1) bs = (putB a off s i bs).set k (gd s i):=by
 refine ext_gd (by simp [putB_length]) (fun j hj=>?_)
 rw [putB_length] at hj
 rw [gd_set _ _ _ _ (by rw [putB_length];exact hk),gd_putB _ _ _ _ _ _ hj,gd_putB _ _ _ _ _ _ hj]
 by_cases e : j = k
 ·subst e
  rw [if_pos rfl,if_pos (by omega)]
  congr 1;omega
 ·rw [if_neg e]
  by_cases c : off ≤ a + (j : Int) ∧ a + (j : Int) < off + (i : Int)
  ·rw [if_pos c,if_pos (by omega)]
  ·rw [if_neg c,if_neg (by omega)]
theorem putH_succ (a off : Int) (i : Nat) (hs : List Bool) (k : Nat) (h : off + (i : Int) = a + (k : Int)) (hk : k < hs.length) : putH a off (i + 1) hs = (putH a off i hs).set k true:=by
 refine ext_hg (by simp [putH_length]) (fun j hj=>?_)
 rw [putH_length] at hj
 rw [hg_set _ _ _ _ (by rw [putH_length];exact hk),hg_putH _ _ _ _ _ hj,hg_putH _ _ _ _ _ hj]
 by_cases e : j = k
 ·subst e
  rw [if_pos rfl,decide_eq_true (by omega),Bool.true_or]
 ·rw [if_neg e]
  congr 1
  apply decide_eq_decide.2;omega
theorem putB_end (a off : Int) (s : List Int) (w n : Nat) (bs : List Int) (hw : bs.length = w) : putB a off s (ovB a off w n) bs = putB a off s n bs:=by
 refine ext_gd (by simp [putB_length]) (fun j hj=>?_)
 rw [putB_length] at hj
 rw [gd_putB _ _ _ _ _ _ hj,gd_putB _ _ _ _ _ _ hj]
 have : (off ≤ a + (j : Int) ∧ a + (j : Int) < off + (ovB a off w n : Nat)) ↔ (off ≤ a + (j : Int) ∧ a + (j : Int) < off + (n : Int)):=by unfold ovB ovA;omega
 simp only [this]
theorem putH_end (a off : Int) (w n : Nat) (hs : List Bool) (hw : hs.length = w) : putH a off (ovB a off w n) hs = putH a off n hs:=by
 refine ext_hg (by simp [putH_length]) (fun j hj=>?_)
 rw [putH_length] at hj
 rw [hg_putH _ _ _ _ _ hj,hg_putH _ _ _ _ _ hj]
 have : (off ≤ a + (j : Int) ∧ a + (j : Int) < off + (ovB a off w n : Nat)) ↔ (off ≤ a + (j : Int) ∧ a + (j : Int) < off + (n : Int)):=by unfold ovB ovA;omega
 simp only [this]
def agAt (bs : List Int) (hs : List Bool) (s : List Int) (i k : Nat) : Bool:=!hg hs k || decide (gd bs k = gd s i)
def ovl (a off : Int) (w n : Nat) : List (Nat × Nat):=(List.range (ovB a off w n - ovA a off)).map fun j=>(ovA a off + j,(off + (ovA a off + j : Nat) - a).toNat)
def agF (a : Int) (bs : List Int) (hs : List Bool) (off : Int) (s : List Int) : Bool:=(ovl a off bs.length s.length).all fun x=>agAt bs hs s x.1 x.2
theorem ovl_mem {a off : Int} {w n : Nat} {x : Nat × Nat} (h : x ∈ ovl a off w n) : x.1 < n ∧ x.2 < w ∧ off + (x.1 : Int) = a + (x.2 : Int):=by
 simp only [ovl,List.mem_map,List.mem_range] at h
 obtain ⟨j,hj,rfl⟩:=h
 simp only
 unfold ovB at hj
 unfold ovA at *
 omega
def readyF : List Bool → Nat
 | []=>0
 | false :: _=>0
 | true :: l=>readyF l + 1
theorem readyF_le (l : List Bool) : readyF l ≤ l.length:=by
 induction l with
 | nil=>exact Nat.le_refl _
 | cons b l ih=>cases b <;> simp [readyF];exact ih
theorem readyF_lt (l : List Bool) : ∀ k,k < readyF l → hg l k = true:=by
 induction l with
 | nil=>intro k h;simp [readyF] at h
 | cons b l ih=>
  cases b
  ·intro k h;simp [readyF] at h
  ·intro k h
   cases k with
   | zero=>rfl
   | succ k=>simp only [readyF] at h;have:=ih k (by omega);simpa [hg] using this
theorem readyF_at (l : List Bool) : readyF l < l.length → hg l (readyF l) = false:=by
 induction l with
 | nil=>intro h;simp at h
 | cons b l ih=>
  cases b
  ·intro _;rfl
  ·intro h
   simp only [readyF,List.length_cons] at h ⊢
   have:=ih (by omega)
   simpa [hg] using this
def takeB (n : Nat) (bs : List Int) : List Int:=bs.drop n ++ List.replicate (min n bs.length) 0
def takeH (n : Nat) (hs : List Bool) : List Bool:=hs.drop n ++ List.replicate (min n hs.length) false
theorem takeB_length (n : Nat) (bs : List Int) : (takeB n bs).length = bs.length:=by simp [takeB];omega
theorem takeH_length (n : Nat) (hs : List Bool) : (takeH n hs).length = hs.length:=by simp [takeH];omega
section
open Go.RowKit
structure Rb where
 at_ : Nat
 bs : List Int
 hs : List Bool
 hi : Int
 fin : Int
 kn : Bool
def Rb.cells (R : Rb) (g1 g2 : Nat) : Array Value:=#[.int .i64 R.at_,.slice (some ⟨g1,0,none⟩) R.bs.length R.bs.length,.slice (some ⟨g2,0,none⟩) R.bs.length R.bs.length,.int .i64 R.hi,.int .i64 R.fin,.bool R.kn]
def u8s (l : List Int) : Obj:=.cells (l.map (Value.int .u8)).toArray 5
def bls (l : List Bool) : Obj:=.cells (l.map Value.bool).toArray 4
structure RbAt (w : World) (b g1 g2 : Nat) (R : Rb) : Prop where
 ob : w.heap[b]? = some (.cells (R.cells g1 g2) 227 (0,0))
 o1 : w.heap[g1]? = some (u8s R.bs)
 o2 : w.heap[g2]? = some (bls R.hs)
 hl : R.hs.length = R.bs.length
 sm : R.bs.length ≤ 8192
structure Tr (b g1 g2 : Nat) (w w' : World) : Prop where
 os : w'.os = w.os
 tape : w'.tape = w.tape
 output : w'.output = w.output
 size : w.heap.size ≤ w'.heap.size
 block : ∀ k,k < w.heap.size → k ≠ b → k ≠ g1 → k ≠ g2 → w'.heap[k]? = w.heap[k]?
theorem Tr.refl (b g1 g2 : Nat) (w : World) : Tr b g1 g2 w w:=⟨rfl,rfl,rfl,Nat.le_refl _,fun _ _ _ _ _=>rfl⟩
theorem Tr.trans {b g1 g2 : Nat} {x y z : World} (h : Tr b g1 g2 x y) (k : Tr b g1 g2 y z) : Tr b g1 g2 x z:=
 ⟨k.os.trans h.os,k.tape.trans h.tape,k.output.trans h.output,Nat.le_trans h.size k.size,fun j hj h1 h2 h3=>(k.block j (Nat.lt_of_lt_of_le hj h.size) h1 h2 h3).trans (h.block j hj h1 h2 h3)⟩
theorem Tr.below {b g1 g2 : Nat} {x y z : World} (h : Tr b g1 g2 x y) (k : Below y.heap.size y z) : Tr b g1 g2 x z:=h.trans ⟨k.os,k.tape,k.output,k.size,fun j hj _ _ _=>k.block j hj⟩
theorem Tr.set {b g1 g2 : Nat} {x y : World} (h : Tr b g1 g2 x y) {k i : Nat} (hk : k = b ∨ k = g1 ∨ k = g2) (v : Value) : Tr b g1 g2 x (y.setCell ⟨k,i,none⟩ v):=
 ⟨h.os,h.tape,h.output,by simpa using h.size,fun j hj h1 h2 h3=>(heap_setCell_other y _ j v (fun e=>by have e : k = j:=(by first | exact e | exact e.symm);omega)).trans (h.block j hj h1 h2 h3)⟩
section
variable {w w' : World} {b g1 g2 : Nat} {R : Rb}
theorem RbAt.below (h : RbAt w b g1 g2 R) (hb : Below w.heap.size w w') : RbAt w' b g1 g2 R:=⟨heap_below hb h.ob,heap_below hb h.o1,heap_below hb h.o2,h.hl,h.sm⟩
theorem RbAt.ne (h : RbAt w b g1 g2 R) : b ≠ g1 ∧ b ≠ g2 ∧ g1 ≠ g2:=by
 have h1:=h.ob;have h2:=h.o1;have h3:=h.o2
 refine ⟨fun e=>?_,fun e=>?_,fun e=>?_⟩ <;> subst e
 ·rw [h1] at h2;simp [u8s] at h2
 ·rw [h1] at h3;simp [bls] at h3
 ·rw [h2] at h3;simp [u8s,bls] at h3
theorem RbAt.cells (h : RbAt w b g1 g2 R) : w.cell? ⟨b,0,none⟩ = some (.int .i64 R.at_) ∧ w.cell? ⟨b,1,none⟩ = some (.slice (some ⟨g1,0,none⟩) R.bs.length R.bs.length) ∧ w.cell? ⟨b,2,none⟩ = some (.slice (some ⟨g2,0,none⟩) R.bs.length R.bs.length) ∧
  w.cell? ⟨b,3,none⟩ = some (.int .i64 R.hi) ∧ w.cell? ⟨b,4,none⟩ = some (.int .i64 R.fin) ∧ w.cell? ⟨b,5,none⟩ = some (.bool R.kn):=
 ⟨at_whole h.ob 0 rfl,at_whole h.ob 1 rfl,at_whole h.ob 2 rfl,at_whole h.ob 3 rfl,at_whole h.ob 4 rfl,at_whole h.ob 5 rfl⟩
theorem RbAt.byte (h : RbAt w b g1 g2 R) (k : Nat) (hk : k < R.bs.length) : w.cell? ⟨g1,k,none⟩ = some (.int .u8 (gd R.bs k)):=by
 refine at_whole h.o1 k ?_
 simp [gd,hk]
theorem RbAt.flag (h : RbAt w b g1 g2 R) (k : Nat) (hk : k < R.bs.length) : w.cell? ⟨g2,k,none⟩ = some (.bool (hg R.hs k)):=by
 have:=h.hl
 refine at_whole h.o2 k ?_
 simp [hg,show k < R.hs.length by omega]
end
theorem end_any (off : Nat) (s : ByteArray) (fin : Bool) (w : World) (h : (off : Int) + s.size ≤ 9223372036854775807) : Calls Tryz.prog 306 #[.agg #[.int .i64 off,.string s,.bool fin]] w fun e w'=>e = .returned (.int .i64 ((off : Int) + s.size)) ∧ w' = w.alloc (.cells #[.int .i64 off,.string s,.bool fin] 309):=by
 have hw : IntKind.i64.wrap ((off : Int) + s.size) = (off : Int) + s.size:=IntWalk.i64_in _ (by omega)
 go_enter Tryz.func306,Tryz.ntmps306
 go_wp2
 go_ret
 exact ⟨rfl,rfl⟩
theorem ready_any (b g1 g2 : Nat) (R : Rb) (w : World) (h : RbAt w b g1 g2 R) : Calls Tryz.prog 147 #[.pointer (some ⟨b,0,none⟩)] w fun e w'=>e = .returned (.int .i64 (readyF R.hs)) ∧ w = w':=by
 have h2:=h.cells.2.2.1
 have HH:=Lib.hid h
 have hl:=h.hl
 have hsm:=h.sm
 have hle:=readyF_le R.hs
 have HL:=Lib.hid (readyF_lt R.hs)
 have HA:=Lib.hid (readyF_at R.hs)
 have HF:=Lib.hid (fun k hk=>h.flag k hk)
 clear h
 generalize readyF R.hs = m at *
 generalize R.bs.length = n at *
 go_enter Tryz.func147,Tryz.ntmps147
 go_wp2
 go_loop [10] (fun i=>∃ j : Nat,j ≤ m ∧ i = .int .i64 j) (fun i=>m + 1 - (intOf i).toNat)
 case atStart=>exact ⟨0,Nat.zero_le _,rfl⟩
 case round=>
  obtain ⟨j,hj,rfl⟩:=hrel
  by_cases hlt : j < n
  ·have c0:=HF.out j hlt
   have d0 : (j : Int) < (n : Int):=by omega
   have d1 : (0 : Int) ≤ (j : Int):=by omega
   by_cases hjm : j < m
   ·rw [HL.out j hjm] at c0
    go_wp2
    go_round
    case rel=>exact ⟨j + 1,by omega,by go_num⟩
    case measure=>simp [intOf];omega
   ·obtain rfl : j = m:=by omega
    rw [HA.out (by omega)] at c0
    go_wp2
    go_ret
    exact ⟨rfl,rfl⟩
  ·have d0 : ((j : Int) < (n : Int)) = False:=eq_false (by omega)
   obtain rfl : j = m:=by omega
   have e : n = j:=by omega
   subst e
   go_wp2
   go_ret
   exact ⟨rfl,rfl⟩
end
section
open Go.RowKit
def newRb (n : Nat) : Rb:=⟨0,List.replicate n 0,List.replicate n false,0,0,false⟩
theorem info5 : (Tryz.prog.info? 5).map (fun i=>(i.zero,i.size,i.bytes)) = some (some (.int .u8 0),1,1):=by kernel_rfl
theorem info4 : (Tryz.prog.info? 4).map (fun i=>(i.zero,i.size,i.bytes)) = some (some (.bool false),1,1):=by kernel_rfl
theorem made_u8 (n : Nat) : madeCells #[.int .u8 0] n = ((List.replicate n (0 : Int)).map (Value.int .u8)).toArray:=by
 apply Array.ext'
 simp only [madeCells,Array.toList_map,Array.toList_range,List.map_replicate,List.size_toArray]
 rw [List.eq_replicate_iff]
 simp [Nat.mod_one]
theorem made_bl (n : Nat) : madeCells #[.bool false] n = ((List.replicate n false).map Value.bool).toArray:=by
 apply Array.ext'
 simp only [madeCells,Array.toList_map,Array.toList_range,List.map_replicate,List.size_toArray]
 rw [List.eq_replicate_iff]
 simp [Nat.mod_one]
theorem new_any (n : Nat) (h1 : 1 ≤ n) (h2 : n ≤ 8192) (w : World) : Calls Tryz.prog 121 #[.int .i64 n] w fun e w'=>∃ b g1 g2,e = .returned (.tuple #[.pointer (some ⟨b,0,none⟩),.int .i64 0]) ∧ RbAt w' b g1 g2 (newRb n) ∧ Below w.heap.size w w' ∧ w.heap.size ≤ b ∧ w.heap.size ≤ g1 ∧ w.heap.size ≤ g2:=by
 have k1:=run_make_row' (P:=Tryz.prog) 52 5 (.int .u8 0) 1 Tryz.underlying52 info5 rfl .i64 .i64 n (by omega) (by omega)
 have k2:=run_make_row' (P:=Tryz.prog) 43 4 (.bool false) 1 Tryz.underlying43 info4 rfl .i64 .i64 n (by omega) (by omega)
 have g1 : ((n : Int) < 1) = False:=eq_false (by omega)
 have g2 : (8192 < (n : Int)) = False:=eq_false (by omega)
 have g3 : decide ((n : Int) > 8192) = false:=decide_eq_false (by omega)
 have g4 : decide ((n : Int) < 1) = false:=decide_eq_false (by omega)
 go_enter Tryz.func121,Tryz.ntmps121
 go_wp2_with fail
 have B1:=Lib.hid (box3 w (.cells (madeCells #[.int .u8 0] n) 5) (.cells (madeCells #[.bool false] n) 4) (.cells #[.int .i64 0,.slice (some ⟨w.heap.size,0,none⟩) n n,.slice (some ⟨w.heap.size + 1,0,none⟩) n n,.int .i64 0,.int .i64 0,.bool false] 227))
 have B2:=Lib.hid (box3 w (.cells (madeCells #[.bool false] n) 4) (.cells (madeCells #[.int .u8 0] n) 5) (.cells #[.int .i64 0,.slice (some ⟨w.heap.size + 1,0,none⟩) n n,.slice (some ⟨w.heap.size,0,none⟩) n n,.int .i64 0,.int .i64 0,.bool false] 227))
 go_region
 ·go_wp2
  go_returns
  obtain ⟨a1,a2,a3,a4,a5⟩:=B1.out
  refine ⟨w.heap.size + 1 + 1,w.heap.size,w.heap.size + 1,rfl,⟨?_,?_,?_,by simp [newRb],by simp [newRb];omega⟩,a4.drew,by omega,by omega,by omega⟩
  ·refine Eq.trans a3 ?_;simp [Rb.cells,newRb]
  ·refine Eq.trans a1 ?_;rw [made_u8];simp [u8s,newRb]
  ·refine Eq.trans a2 ?_;rw [made_bl];simp [bls,newRb]
 ·go_wp2
  go_returns
  obtain ⟨a1,a2,a3,a4,a5⟩:=B2.out
  refine ⟨w.heap.size + 1 + 1,w.heap.size + 1,w.heap.size,rfl,⟨?_,?_,?_,by simp [newRb],by simp [newRb];omega⟩,a4.drew,by omega,by omega,by omega⟩
  ·refine Eq.trans a3 ?_;simp [Rb.cells,newRb]
  ·refine Eq.trans a2 ?_;rw [made_u8];simp [u8s,newRb]
  ·refine Eq.trans a1 ?_;rw [made_bl];simp [bls,newRb]
end
section
open Go.RowKit Go.Shelf
attribute [local go_sem] Oper.semAt_some
def pcO (off : Nat) (s : ByteArray) (fin : Bool) : Array Value:=#[.int .i64 off,.string s,.bool fin]
theorem over_any (b : Nat) (off : Nat) (s : ByteArray) (fin : Bool) (w : World) : Calls Tryz.prog 328 #[.pointer (some ⟨b,0,none⟩),.agg (pcO off s fin)] w fun e w'=>
  e = .returned (.func (.func 335) #[] #[.pointer (some ⟨w.heap.size,0,none⟩),.pointer (some ⟨w.heap.size + 1,0,none⟩)]) ∧ w' = (w.alloc (.cells #[.pointer (some ⟨b,0,none⟩)] 289)).alloc (.cells (pcO off s fin) 309):=by
 unfold pcO
 go_enter Tryz.func328,Tryz.ntmps328
 go_wp2
 go_ret
 exact ⟨rfl,rfl⟩
def encO (x : Nat × Nat) : Array Value:=#[.int .i64 x.1,.int .i64 x.2]
def KpO (B1 B2 b : Nat) (W W' : World) : Prop:=W'.heap[B1]? = W.heap[B1]? ∧ W'.heap[B2]? = W.heap[B2]? ∧ W'.heap[b]? = W.heap[b]?
theorem KpO.refl (B1 B2 b : Nat) (W : World) : KpO B1 B2 b W W:=⟨rfl,rfl,rfl⟩
theorem KpO.trans {B1 B2 b : Nat} {x y z : World} (h : KpO B1 B2 b x y) (k : KpO B1 B2 b y z) : KpO B1 B2 b x z:=⟨k.1.trans h.1,k.2.1.trans h.2.1,k.2.2.trans h.2.2⟩
theorem kpO_b {B1 B2 b m : Nat} (h1 : B1 < m) (h2 : B2 < m) (h3 : b < m) (W : World) (l : Nat) (o o' : Obj) (hl : m ≤ l) (h : W.heap[l]? = some o) (_hc : o.isCells = false) (_hw : o.isWalk = false) : KpO B1 B2 b W (W.putObj l o'):=
 have hz:=(Array.getElem?_eq_some_iff.1 h).1
 ⟨(grownBy_putObj' W l o').block B1 (by omega) (fun e=>by cases e;omega),(grownBy_putObj' W l o').block B2 (by omega) (fun e=>by cases e;omega),(grownBy_putObj' W l o').block b (by omega) (fun e=>by cases e;omega)⟩
theorem ovl_length (a off : Int) (w n : Nat) : (ovl a off w n).length = ovB a off w n - ovA a off:=by simp [ovl]
theorem ovl_take (a off : Int) (w n : Nat) {k : Nat} (hk : k < ovB a off w n - ovA a off) : (ovl a off w n).take (k + 1) = (ovl a off w n).take k ++ [(ovA a off + k,(off + (ovA a off + k : Nat) - a).toNat)]:=by
 rw [List.take_add_one,List.getElem?_eq_getElem (by rw [ovl_length];exact hk)]
 simp [ovl]
theorem ovl_at (a off : Int) (w n : Nat) {k : Nat} (hk : k < ovB a off w n - ovA a off) : (ovA a off + k,(off + (ovA a off + k : Nat) - a).toNat) ∈ ovl a off w n:=List.mem_map.2 ⟨k,List.mem_range.2 hk,rfl⟩
theorem ov_in (n : Nat) (hn : 2 ≤ n) (ly B1 B2 b g1 g2 : Nat) (R : Rb) (off : Nat) (s : ByteArray) (fin : Bool) (hoff : off ≤ 1099511627776) (hs : s.size ≤ 8192) (ha : R.at_ ≤ 1125899906842624) (hw : R.bs.length ≤ 8192) (J Jx : List (Nat × Nat) → World → Prop) {mA : Nat} (hJA : AbidesFrom mA J)
  (hY : ∀ pre x W,x ∈ ovl R.at_ off R.bs.length s.size → J pre W → pre.length < (ovl R.at_ off R.bs.length s.size).length → YieldAt Fence.wide (n - 1) Tryz.prog ly (encO x) W fun e W'=>
   (e = .returned (.bool true) ∧ J (pre ++ [x]) W' ∧ KpO B1 B2 b W W') ∨ (e = .returned (.bool false) ∧ Jx (pre ++ [x]) W'))
  (W : World) (h1 : W.heap[B1]? = some (.cells #[.pointer (some ⟨b,0,none⟩)] 289 (0,0))) (h2 : W.heap[B2]? = some (.cells (pcO off s fin) 309 (0,0))) (hb : W.heap[b]? = some (.cells (R.cells g1 g2) 227 (0,0))) (h0 : J [] W) :
  CallsIn Fence.wide n Tryz.prog 335 #[.func (.yield ly) #[] #[],.pointer (some ⟨B1,0,none⟩),.pointer (some ⟨B2,0,none⟩)] W fun e W'=>(∃ v,e = .returned v) ∧
   ((∃ ys,ys = ovl R.at_ off R.bs.length s.size ∧ J ys W') ∨ (∃ pre,(∃ k,k < (ovl R.at_ off R.bs.length s.size).length ∧ pre = (ovl R.at_ off R.bs.length s.size).take (k + 1)) ∧ Jx pre W')):=by
 have HC : Hid (∀ W',KpO B1 B2 b W W' → (W'.cell? ⟨B1,0,none⟩ = some (.pointer (some ⟨b,0,none⟩)) ∧ W'.cell? ⟨B2,0,none⟩ = some (.int .i64 off) ∧ W'.cell? ⟨B2,1,none⟩ = some (.string s) ∧
   W'.cell? ⟨b,0,none⟩ = some (.int .i64 R.at_) ∧ W'.cell? ⟨b,1,none⟩ = some (.slice (some ⟨g1,0,none⟩) R.bs.length R.bs.length))):=Lib.hid (fun W' hk=>
  ⟨at_whole (hk.1.trans h1) 0 rfl,at_whole (hk.2.1.trans h2) 0 rfl,at_whole (hk.2.1.trans h2) 1 rfl,at_whole (hk.2.2.trans hb) 0 rfl,at_whole (hk.2.2.trans hb) 1 rfl⟩)
 have HJ:=Lib.hid h0
 have LT:=Lib.hid (fun k hk=>ovl_take (R.at_ : Int) (off : Int) R.bs.length s.size (k:=k) hk)
 have LA:=Lib.hid (fun k hk=>ovl_at (R.at_ : Int) (off : Int) R.bs.length s.size (k:=k) hk)
 have LL:=ovl_length (R.at_ : Int) (off : Int) R.bs.length s.size
 clear h1 h2 hb h0
 generalize ovl (R.at_ : Int) (off : Int) R.bs.length s.size = L at *
 have hA : ovA (R.at_ : Int) (off : Int) = R.at_ - off:=by unfold ovA;omega
 have hB : ovB (R.at_ : Int) (off : Int) R.bs.length s.size = max (R.at_ - off) (min s.size (R.at_ + R.bs.length - off)):=by unfold ovB ovA;omega
 rw [hA,hB] at LT LA LL
 clear hA hB
 generalize R.at_ = a at *
 generalize R.bs.length = m at *
 obtain ⟨y0,y1,y2,y3,y4⟩:=HC.out W (KpO.refl _ _ _ _)
 have e1 : IntKind.i64.wrap ((a : Int) - (off : Int)) = (a : Int) - (off : Int):=IntWalk.i64_in _ (by omega)
 have e2 : (if (a : Int) - (off : Int) < 0 then (0 : Int) else (a : Int) - (off : Int)) = ((a - off : Nat) : Int):=by split <;> omega
 refine callsIn_of_wp Tryz.func335 rfl trivial ?_ rfl
 simp only [Tryz.ntmps335,List.size_toArray,List.length_cons,List.length_nil,Nat.reduceAdd,Nat.reduceSub,Array.replicate_succ,Array.replicate_zero,List.push_toArray,List.append_toArray,List.nil_append,List.cons_append]
 gi_wp2_with fail
 refine wpIn_scope_straight ?_
 gi_wp2
 refine wpIn_label ?_
 rw [show ∀ (K : Act → World → Prop) Q a w,Exit.then K Q .normal a w = K a w from fun _ _ _ _=>rfl]
 gi_wp2
 gi_region
 gi_wp2
 have DR:=Lib.hid (fun pre wx (h : J pre wx)=>hJA pre wx wx.drew none h (grown_drew (grown_refl _ _)) (fun r e=>by cases e))
 clear y0 y1 y2 y3 y4 e1 e2 hJA
 gi_loopw [4] (fun i wr=>∃ j : Nat,j ≤ L.length ∧ i = .int .i64 ((a - off + j : Nat) : Int) ∧ J (L.take j) wr ∧ KpO B1 B2 b W wr) (fun i _=>a - off + L.length + 1 - (intOf i).toNat)
 case atStart=>exact ⟨0,by omega,rfl,DR.out _ _ HJ.out,KpO.refl _ _ _ _⟩
 case round=>
  obtain ⟨j,hj,rfl,hJ,hk⟩:=hrel
  obtain ⟨y0,y1,y2,y3,y4⟩:=HC.out wr hk
  have HK:=Lib.hid hk
  have HJ2:=Lib.hid hJ
  clear HJ hk hJ
  by_cases hlt : j < L.length
  ·have hkx : j < max (a - off) (min s.size (a + m - off)) - (a - off):=by omega
   have d0 : ((a - off + j : Nat) : Int) < (s.size : Int):=by omega
   obtain ⟨kk,hkk⟩ : ∃ kk : Nat,(off : Int) + ((a - off + j : Nat) : Int) - (a : Int) = (kk : Int):=⟨((off : Int) + ((a - off + j : Nat) : Int) - (a : Int)).toNat,by omega⟩
   have hkm : kk < m:=by omega
   have hT:=LT.out j hkx
   have hM:=LA.out j hkx
   rw [hkk,Int.toNat_natCast] at hT hM
   have HT:=Lib.hid hT
   have e1 : IntKind.i64.wrap ((off : Int) + ((a - off + j : Nat) : Int)) = (off : Int) + ((a - off + j : Nat) : Int):=IntWalk.i64_in _ (by omega)
   have e2 : IntKind.i64.wrap ((off : Int) + ((a - off + j : Nat) : Int) - (a : Int)) = (kk : Int):=by rw [IntWalk.i64_in _ (by omega)];exact hkk
   have e3 : IntKind.i64.wrap (((a - off + j : Nat) : Int) + 1) = ((a - off + (j + 1) : Nat) : Int):=by rw [IntWalk.i64_in _ (by omega)];omega
   have d1 : ((m : Int) ≤ (kk : Int)) = False:=eq_false (by omega)
   have d2 : decide ((kk : Int) ≥ (m : Int)) = false:=decide_eq_false (by omega)
   obtain ⟨fn,tmps,assign,body,hy,hR⟩:=hY (L.take j) (a - off + j,kk) wr.drew hM (DR.out _ _ HJ2.out) (by rw [List.length_take];omega)
   simp only [encO] at hy
   have HR:=Lib.hid hR
   have HX:=Lib.hid (show a - off + (j + 1) ≤ a - off + L.length by omega)
   clear hR hT hM hkk hY
   generalize hii : a - off + j = ii at *
   generalize hi2 : a - off + (j + 1) = i2 at *
   gi_wp2
   gi_region
   gi_wp2
   refine ⟨fun _=>by omega,HR.out.mono ?_⟩
   rintro e W3 (⟨rfl,hJ3,hk3⟩ | ⟨rfl,hJx3⟩)
   ·have K3:=Lib.hid (And.intro hJ3 hk3)
    clear hk3 hJ3 hy y0 y1 y2 y3 y4
    gi_wp2
    go_roundw
    case rel=>exact ⟨j + 1,by omega,by simp only [Value.int.injEq,true_and];omega,by rw [HT.out];exact K3.out.1,HK.out.trans K3.out.2⟩
    case measure=>simp [intOf];omega
   ·have K3:=Lib.hid hJx3
    clear hJx3 hy y0 y1 y2 y3 y4
    gi_wp2
    rw [show ∀ (Q : Exit → Act → World → Prop) a w,Exit.noGoto Q .normal a w = Q .normal a w from fun _ _ _=>rfl]
    go_end0
    exact ⟨⟨_,rfl⟩,.inr ⟨_,⟨j,hlt,HT.out.symm ▸ rfl⟩,K3.out⟩⟩
  ·have hjl : j = L.length:=by omega
   have TL:=Lib.hid (show L.take j = L from by rw [hjl];exact List.take_length)
   by_cases hin : a - off + j < s.size
   ·have d0 : ((a - off + j : Nat) : Int) < (s.size : Int):=by omega
    obtain ⟨kk,hkk⟩ : ∃ kk : Nat,(off : Int) + ((a - off + j : Nat) : Int) - (a : Int) = (kk : Int):=⟨((off : Int) + ((a - off + j : Nat) : Int) - (a : Int)).toNat,by omega⟩
    have hkm : m ≤ kk:=by omega
    have e1 : IntKind.i64.wrap ((off : Int) + ((a - off + j : Nat) : Int)) = (off : Int) + ((a - off + j : Nat) : Int):=IntWalk.i64_in _ (by omega)
    have e2 : IntKind.i64.wrap ((off : Int) + ((a - off + j : Nat) : Int) - (a : Int)) = (kk : Int):=by rw [IntWalk.i64_in _ (by omega)];exact hkk
    have d1 : ((m : Int) ≤ (kk : Int)) = True:=eq_true (by omega)
    have d2 : decide ((kk : Int) ≥ (m : Int)) = true:=decide_eq_true (by omega)
    clear hkk hY
    generalize hii : a - off + j = ii at *
    gi_wp2
    gi_region
    gi_wp2
    refine ⟨(fun _ h=>by cases h),?_⟩
    gi_wp2
    rw [show ∀ (Q : Exit → Act → World → Prop) a w,Exit.noGoto Q .normal a w = Q .normal a w from fun _ _ _=>rfl]
    go_end0
    exact ⟨⟨_,rfl⟩,.inl ⟨_,rfl,by have:=DR.out _ _ HJ2.out;rw [TL.out] at this;exact this⟩⟩
   ·have d0 : (((a - off + j : Nat) : Int) < (s.size : Int)) = False:=eq_false (by omega)
    clear hY
    gi_wp2
    rw [show ∀ (Q : Exit → Act → World → Prop) a w,Exit.noGoto Q .normal a w = Q .normal a w from fun _ _ _=>rfl]
    go_end0
    exact ⟨⟨_,rfl⟩,.inl ⟨_,rfl,by have:=HJ2.out;rw [TL.out] at this;exact this⟩⟩
theorem ov_stops (n : Nat) (hn : 2 ≤ n) (B1 B2 b g1 g2 : Nat) (R : Rb) (off : Nat) (s : ByteArray) (fin : Bool) (hoff : off ≤ 1099511627776) (hs : s.size ≤ 8192) (ha : R.at_ ≤ 1125899906842624) (hw : R.bs.length ≤ 8192) (W : World)
  (h1 : W.heap[B1]? = some (.cells #[.pointer (some ⟨b,0,none⟩)] 289 (0,0))) (h2 : W.heap[B2]? = some (.cells (pcO off s fin) 309 (0,0))) (hb : W.heap[b]? = some (.cells (R.cells g1 g2) 227 (0,0))) :
  SeqStopsK Fence.wide n Tryz.prog 335 #[.pointer (some ⟨B1,0,none⟩),.pointer (some ⟨B2,0,none⟩)] (fun x : { x : Nat × Nat // x ∈ ovl R.at_ off R.bs.length s.size }=>encO x.1) (KpO B1 B2 b) (fun ys=>ys.map (·.1) = ovl R.at_ off R.bs.length s.size) (fun _=>True) (ovl (R.at_ : Int) (off : Int) R.bs.length s.size).length W:=fun ly J Jx W2 hW hJA hJxA hY h0=>by
 refine (ov_in n hn ly B1 B2 b g1 g2 R off s fin hoff hs ha hw (fun pre W=>∃ pre' : List { x : Nat × Nat // x ∈ ovl R.at_ off R.bs.length s.size },pre'.map (·.1) = pre ∧ J pre' W) (fun pre W=>∃ pre' : List { x : Nat × Nat // x ∈ ovl R.at_ off R.bs.length s.size },pre'.map (·.1) = pre ∧ Jx pre' W)
  (mA:=W2.heap.size) (fun s A C row hs hg hr=>by obtain ⟨p,h1,h2⟩:=hs;exact ⟨p,h1,hJA p A C row h2 hg hr⟩) ?_ W2 ((hW.block B1 (heap_lt h1)).trans h1) ((hW.block B2 (heap_lt h2)).trans h2) ((hW.block b (heap_lt hb)).trans hb) ⟨[],rfl,h0⟩).mono ?_
 ·rintro pre x W hx ⟨pre',rfl,hj⟩ hlen
  refine (hY pre' ⟨x,hx⟩ W hj (by simpa using hlen)).mono ?_
  rintro e W' (⟨h1,h2,h3⟩ | ⟨h1,h2⟩)
  ·exact .inl ⟨h1,⟨pre' ++ [⟨x,hx⟩],by simp,h2⟩,h3⟩
  ·exact .inr ⟨h1,pre' ++ [⟨x,hx⟩],by simp,h2⟩
 ·rintro e W' ⟨h1,h2⟩
  refine ⟨h1,?_⟩
  rcases h2 with ⟨ys,rfl,ys',e,hj⟩ | ⟨pre,_,pre',_,hj⟩
  ·exact .inl ⟨ys',e,hj⟩
  ·exact .inr ⟨pre',trivial,hj⟩
end
section
open Go.RowKit
section
variable {F : Fence} {n : Nat} {P : Program} {ops : Array Oper} {Q : Exit → Act → World → Prop}
structure RInv (s m : Nat) (val : Nat → Value) (A0 : Act) (W1 : World) (L : Nat → Bool) (a : Act) (w : World) : Prop where
 nod : a.defers = A0.defers
 size : a.tmps.size = A0.tmps.size
 old : ∀ p,p < s ∨ s + m ≤ p → a.tmps[p]? = A0.tmps[p]?
 new : ∀ j,j < m → a.tmps[s + j]? = if L j then some (val j) else A0.tmps[s + j]?
 w : w = W1
theorem read_region {id : Nat} (s m : Nat) (val : Nat → Value) {A0 : Act} {W0 : World} {tm : Array Value} (hm : P.follows .mixedOrders = true) (hu : upward ops = true) (hz : ops.size = m) (hsz : s + m ≤ A0.tmps.size)
  (hop : ∀ i o,i < m → ops[i]? = some o → ∀ a,PHas s m val A0 o a → o.dst = some (s + i) ∧ (∀ f,o.about P W0.drew a.eval = some f → F.fn f) ∧
   ((Region.wanted o (yielded ops a.tmps) = true ∧ (o.semAt F.round a.eval).run P W0.drew = .ok (.value (val i)) W0.drew) ∨ (Region.wanted o (yielded ops a.tmps) = false ∧ val i = undef)))
  (htm : (List.range m).foldl (fun t j=>t.setIfInBounds (s + j) (val j)) A0.tmps = tm) (h : Q .normal { tmps:=tm,defers:=A0.defers } W0.drew) : (Code.region id ops true).wpIn F n P Q A0 W0:=by
 refine wpIn_region_inv hm hu (fun L a w=>RInv s m val A0 W0.drew L a w) ⟨rfl,rfl,fun _ _=>rfl,fun _ _=>rfl,rfl⟩ ?_ ?_
 ·rintro L a w i o ho hL hdep hI
  have hi : i < m:=by have:=(Array.getElem?_eq_some_iff.1 ho).1;omega
  have hdep' : ∀ e ∈ o.after,Region.binds .any e = true → e.on < m → a.tmps[s + e.on]? = some (val e.on):=fun e he hb hlt=>by rw [hI.new _ hlt,hdep e he hb];rfl
  have hw : w = W0.drew:=hI.w
  subst hw
  obtain ⟨h1,h3,h4⟩:=hop i o hi ho a ⟨hI.old,hdep'⟩
  have hsi : s + i < a.tmps.size:=by rw [hI.size];omega
  have key : RInv s m val A0 W0.drew (fun j=>j == i || L j) (a.put o.dst (val i)) W0.drew:=by
   rw [h1]
   refine ⟨hI.nod,?_,?_,?_,rfl⟩
   ·show (a.tmps.setIfInBounds _ _).size = _;simpa using hI.size
   ·intro p hp
    show (a.tmps.setIfInBounds _ _)[p]? = _
    rw [Array.getElem?_setIfInBounds_ne (by omega)]
    exact hI.old p hp
   ·intro j hj
    show (a.tmps.setIfInBounds _ _)[s + j]? = _
    by_cases hji : j = i
    ·subst hji
     rw [Array.getElem?_setIfInBounds_self_of_lt hsi]
     simp
    ·rw [Array.getElem?_setIfInBounds_ne (by omega),hI.new j hj]
     simp [hji]
  refine wpOpIn_step ho fun K' hK=>?_
  rcases h4 with ⟨hw,h5⟩ | ⟨hw,h5⟩
  ·rw [if_pos hw]
   unfold Oper.wpIn
   refine ⟨h3,?_⟩
   rw [h5]
   exact hK _ _ key
  ·rw [if_neg (by rw [hw];decide)]
   refine ⟨h3,?_⟩
   rw [h5] at key
   exact hK _ _ key
 ·rintro L a w hall hI
  have hw : w = W0.drew:=hI.w
  have ha : a = { tmps:=tm,defers:=A0.defers }:=by
   obtain ⟨at_,ad⟩:=a
   have h1 : ad = A0.defers:=hI.nod
   have h2 : at_ = tm:=by
    rw [← htm]
    apply Array.ext_getElem?
    intro p
    rw [foldl_set s m val A0.tmps hsz p]
    by_cases hp : s ≤ p ∧ p < s + m
    ·rw [if_pos hp]
     have:=hI.new (p - s) (by omega)
     rw [hall _ (by omega),if_pos rfl,show s + (p - s) = p by omega] at this
     exact this
    ·rw [if_neg hp]
     exact hI.old p (by omega)
   rw [h1,h2]
  rw [hw,ha]
  exact h
end
end
end Go.Proofs.YthckbmcmdcemkaaGreatDoor.rea
