/- Texts of this claim, one behind the other: FMap FA FB FF FG FH FOs FI FLit. -/
import Derived.Test.YthckbmcmdcemkaaGreatDoorBs1
import Derived.Maps.OwnOps
import Derived.Maps.OwnSet
import Derived.Maps.Views
import Derived.RangeFuncNested
import Derived.RangeFuncBound
import Derived.RangeFuncCalls
import Derived.RangeFuncLeaves
import Derived.Shelf.Abstract
import Derived.Shelf.RegionOpen
import Derived.WalkKit
import Derived.OwnWalkIn
import Derived.TacticsInMore
import Derived.LoopNIn
import Derived.LoopIn
import Derived.Laws.EntriesVeiled
import Derived.Stop.RegionWithIn
import Derived.RangeFuncBox
import Derived.Maps.AppendAt
import Derived.Laws.BytesArg
import Derived.Laws.Rows
set_option maxRecDepth 100000
set_option maxHeartbeats 16000000
set_option linter.unusedSimpArgs false
set_option linter.unusedVariables false
namespace Go.Proofs.YthckbmcmdcemkaaGreatDoor.frm
section
open Go.RowKit Go.Maps
def self (v : Value) : Option (DataW Value × List MemPlace):=some (.held v,[])
def MapAt (w : World) (k : TypeId) (b n : Nat) (D : DataW Value) : Prop:=w.ownsMap Tryz.prog k self b n D
theorem MapAt.made (w : World) (k : TypeId) : MapAt (w.alloc (.map #[] 0)) k w.heap.size 0 (.map []):=World.ownsMap_made _ _ _ _
theorem MapAt.lt {w : World} {k : TypeId} {b n : Nat} {D : DataW Value} (h : MapAt w k b n D) : b < w.heap.size:=World.ownsMap.lt h
theorem MapAt.grown {w w' : World} {k : TypeId} {b n : Nat} {D : DataW Value} {r : Option Nat} (h : MapAt w k b n D) (hg : w.grownBy w' r) (hne : some b ≠ r) : MapAt w' k b n D:=World.ownsMap.kept h hg hne
theorem MapAt.below {w w' : World} {k : TypeId} {b n : Nat} {D : DataW Value} (h : MapAt w k b n D) (hb : Below w.heap.size w w') : MapAt w' k b n D:=h.grown (grown_below (r:=none) hb) (by simp)
theorem MapAt.alloc {w : World} {k : TypeId} {b n : Nat} {D : DataW Value} (h : MapAt w k b n D) (o : Obj) : MapAt (w.alloc o) k b n D:=World.ownsMap.alloc h o
theorem MapAt.look {w : World} {k : TypeId} {b n : Nat} {D : DataW Value} (h : MapAt w k b n D) {t e : TypeId} (K : Keyed Tryz.prog k) (ht : Tryz.prog.underlying t = some (.map k e)) {z : Value} (hz : (zeroValue e).run Tryz.prog w = .ok z w)
  {key : Value} {kl : Lit} (hkey : keyOf Tryz.prog k key = some kl) {v : Value} (hv : D.atKey kl (.held z) = .held v) :
  (Instr.lookup t (.map (some b)) key false).run Tryz.prog w = .ok v w:=by
 obtain ⟨v',ps,hrun,hR⟩:=World.ownsMap.lookup h K ht hz (zd:=.held z) (zp:=[]) rfl hkey
 rw [hv] at hR
 simp only [self,Option.some.injEq,Prod.mk.injEq,DataW.held.injEq] at hR
 rw [← hR.1]
 exact hrun
theorem MapAt.look_ok {w : World} {k : TypeId} {b n : Nat} {D : DataW Value} (h : MapAt w k b n D) {t e : TypeId} (K : Keyed Tryz.prog k) (ht : Tryz.prog.underlying t = some (.map k e)) {z : Value} (hz : (zeroValue e).run Tryz.prog w = .ok z w)
  {key : Value} {kl : Lit} (hkey : keyOf Tryz.prog k key = some kl) {v : Value} (hv : D.atKey kl (.held z) = .held v) :
  (Instr.lookup t (.map (some b)) key true).run Tryz.prog w = .ok (.tuple #[v,.bool (Maps.has D kl)]) w:=by
 obtain ⟨v',ps,hrun,hR⟩:=World.ownsMap.look_ok h K ht hz (zd:=.held z) (zp:=[]) rfl hkey
 rw [hv] at hR
 simp only [self,Option.some.injEq,Prod.mk.injEq,DataW.held.injEq] at hR
 rw [← hR.1]
 exact hrun
theorem MapAt.put {w : World} {k : TypeId} {b n : Nat} {D : DataW Value} (h : MapAt w k b n D) {t e : TypeId} (K : Keyed Tryz.prog k) (ht : Tryz.prog.underlying t = some (.map k e)) (hn : n < maxLen) {key : Value} (val : Value) {kl : Lit}
  (hkey : keyOf Tryz.prog k key = some kl) : ∃ w',(Instr.mapUpdate t (.map (some b)) key val).run Tryz.prog w = .ok () w' ∧ MapAt w' k b (n + 1) (D.put kl (.held val)) ∧ w.grownBy w' (some b):=
 World.ownsMap.update h K ht hn hkey rfl
end
section
open Go.RowKit
def cls (n : Int) : Int:=if n < 0 then -1 else if n ≤ 63 then 0 else if n ≤ 16383 then 1 else if n ≤ 1073741823 then 2 else if n ≤ 4611686018427387903 then 3 else -1
theorem cidx0 (w : World) : (Instr.index 361 (.agg #[.int .i64 63,.int .i64 16383,.int .i64 1073741823,.int .i64 4611686018427387903]) (.int .i64 0)).run Tryz.prog w = .ok (.int .i64 63) w:=by kernel_rfl
theorem cidx1 (w : World) : (Instr.index 361 (.agg #[.int .i64 63,.int .i64 16383,.int .i64 1073741823,.int .i64 4611686018427387903]) (.int .i64 1)).run Tryz.prog w = .ok (.int .i64 16383) w:=by kernel_rfl
theorem cidx2 (w : World) : (Instr.index 361 (.agg #[.int .i64 63,.int .i64 16383,.int .i64 1073741823,.int .i64 4611686018427387903]) (.int .i64 2)).run Tryz.prog w = .ok (.int .i64 1073741823) w:=by kernel_rfl
theorem cidx3 (w : World) : (Instr.index 361 (.agg #[.int .i64 63,.int .i64 16383,.int .i64 1073741823,.int .i64 4611686018427387903]) (.int .i64 3)).run Tryz.prog w = .ok (.int .i64 4611686018427387903) w:=by kernel_rfl
theorem class_any (n : Int) (w : World) : Calls Tryz.prog 312 #[.int .i64 n] w fun e w'=>e = .returned (.int .i64 (cls n)) ∧ Below w.heap.size w w':=by
 by_cases h0 : n < 0
 ·have E : Hid (cls n = -1):=Lib.hid (by unfold cls;rw [if_pos h0])
  go_enter Tryz.func312,Tryz.ntmps312
  go_wp2
  go_ret
  exact ⟨by rw [E.out];try rfl,bz0.alloc (Nat.le_refl _) _⟩
 ·have h0' : 0 ≤ n:=by omega
  have hc : n ≤ 63 ∨ (63 < n ∧ n ≤ 16383) ∨ (16383 < n ∧ n ≤ 1073741823) ∨ (1073741823 < n ∧ n ≤ 4611686018427387903) ∨ 4611686018427387903 < n:=by omega
  clear h0
  have x0:=cidx0
  have x1:=cidx1
  have x2:=cidx2
  have x3:=cidx3
  rcases hc with h1 | ⟨h1,h2⟩ | ⟨h1,h2⟩ | ⟨h1,h2⟩ | h1
  ·have E : Hid (cls n = 0):=Lib.hid (by unfold cls;rw [if_neg (by omega),if_pos h1])
   go_enter Tryz.func312,Tryz.ntmps312
   go_wp2
   refine wp_loop_rounds 1 ?_
   rw [rounds_succ]
   go_wp2
   go_ret
   exact ⟨by rw [E.out];try rfl,bz0.alloc (Nat.le_refl _) _⟩
  ·have E : Hid (cls n = 1):=Lib.hid (by unfold cls;rw [if_neg (by omega),if_neg (by omega),if_pos h2])
   have g1 : ¬ n ≤ 63:=by omega
   go_enter Tryz.func312,Tryz.ntmps312
   go_wp2
   refine wp_loop_rounds 2 ?_
   rw [rounds_succ]
   go_wp2
   rw [rounds_succ]
   go_wp2
   go_ret
   exact ⟨by rw [E.out];try rfl,bz0.alloc (Nat.le_refl _) _⟩
  ·have E : Hid (cls n = 2):=Lib.hid (by unfold cls;rw [if_neg (by omega),if_neg (by omega),if_neg (by omega),if_pos h2])
   have g1 : ¬ n ≤ 63:=by omega
   have g2 : ¬ n ≤ 16383:=by omega
   go_enter Tryz.func312,Tryz.ntmps312
   go_wp2
   refine wp_loop_rounds 3 ?_
   rw [rounds_succ]
   go_wp2
   rw [rounds_succ]
   go_wp2
   rw [rounds_succ]
   go_wp2
   go_ret
   exact ⟨by rw [E.out];try rfl,bz0.alloc (Nat.le_refl _) _⟩
  ·have E : Hid (cls n = 3):=Lib.hid (by unfold cls;rw [if_neg (by omega),if_neg (by omega),if_neg (by omega),if_neg (by omega),if_pos h2])
   have g1 : ¬ n ≤ 63:=by omega
   have g2 : ¬ n ≤ 16383:=by omega
   have g3 : ¬ n ≤ 1073741823:=by omega
   go_enter Tryz.func312,Tryz.ntmps312
   go_wp2
   refine wp_loop_rounds 4 ?_
   rw [rounds_succ]
   go_wp2
   rw [rounds_succ]
   go_wp2
   rw [rounds_succ]
   go_wp2
   rw [rounds_succ]
   go_wp2
   go_ret
   exact ⟨by rw [E.out];try rfl,bz0.alloc (Nat.le_refl _) _⟩
  ·have E : Hid (cls n = -1):=Lib.hid (by unfold cls;rw [if_neg (by omega),if_neg (by omega),if_neg (by omega),if_neg (by omega),if_neg (by omega)])
   have g1 : ¬ n ≤ 63:=by omega
   have g2 : ¬ n ≤ 16383:=by omega
   have g3 : ¬ n ≤ 1073741823:=by omega
   have g4 : ¬ n ≤ 4611686018427387903:=by omega
   go_enter Tryz.func312,Tryz.ntmps312
   go_wp2
   refine wp_loop_rounds 5 ?_
   rw [rounds_succ]
   go_wp2
   rw [rounds_succ]
   go_wp2
   rw [rounds_succ]
   go_wp2
   rw [rounds_succ]
   go_wp2
   rw [rounds_succ]
   go_wp2
   go_ret
   exact ⟨by rw [E.out];try rfl,bz0.alloc (Nat.le_refl _) _⟩
end
section
open Go.RowKit
def bytesOf (s : ByteArray) : List Int:=s.data.toList.map fun b=>(b.toNat : Int)
theorem bytesOf_length (s : ByteArray) : (bytesOf s).length = s.size:=by
 unfold bytesOf;rw [List.length_map,Array.length_toList];rfl
end
section
open Go.RowKit Go.Shelf
attribute [local go_sem] Oper.semAt_some
def beB (w : Nat) (N : Int) : List Int:=(List.range w).map fun j=>N / 2 ^ (8 * (w - 1 - j)) % 256
theorem beB_len (w : Nat) (N : Int) : (beB w N).length = w:=by simp [beB]
def encB (x : Int) : Array Value:=#[.int .u8 x]
theorem beB_succ (w : Nat) (N : Int) (k : Nat) (h : k < w) : (beB w N).take (k + 1) = (beB w N).take k ++ [N / 2 ^ (8 * (w - 1 - k)) % 256]:=by
 rw [List.take_succ_eq_append_getElem (by rw [beB_len];exact h)]
 simp [beB]
theorem be_in (n : Nat) (hn : 1 ≤ n) (l B1 B2 n₀ : Nat) (N : Int) (w : Nat) (hw : w ≤ 8) (_hN0 : 0 ≤ N) (_hN1 : N < 18446744073709551616) (_hp1 : B1 < n₀) (hp2 : B2 < n₀) (J Jx : List Int → World → Prop) {m : Nat} (_hJA : AbidesFrom m J)
  (hY : ∀ pre x W,J pre W → pre.length < w → YieldAt Fence.wide (n - 1) Tryz.prog l (encB x) W fun e W'=>
   (e = .returned (.bool true) ∧ J (pre ++ [x]) W' ∧ Below n₀ W W') ∨ (e = .returned (.bool false) ∧ Jx (pre ++ [x]) W'))
  (W : World) (_hWn : n₀ ≤ W.heap.size) (hB1 : W.cell? ⟨B1,0,none⟩ = some (.int .i64 w)) (hB2 : W.cell? ⟨B2,0,none⟩ = some (.int .u64 N)) (h0 : J [] W) :
  CallsIn Fence.wide n Tryz.prog 330 #[.func (.yield l) #[] #[],.pointer (some ⟨B1,0,none⟩),.pointer (some ⟨B2,0,none⟩)] W fun e W'=>(∃ v,e = .returned v) ∧
   ((∃ ys,ys = beB w N ∧ J ys W') ∨ (∃ pre,pre <+: beB w N ∧ Jx pre W')):=by
 refine callsIn_of_wp Tryz.func330 rfl trivial ?_ rfl
 simp only [Tryz.ntmps330,List.size_toArray,List.length_cons,List.length_nil,Nat.reduceAdd,Nat.reduceSub,Array.replicate_succ,Array.replicate_zero,List.push_toArray,List.append_toArray,List.nil_append,List.cons_append]
 gi_wp2
 gi_loopw [4] (fun i wr=>∃ k : Nat,k ≤ w ∧ i = .int .i64 ((w : Int) - 1 - (k : Int)) ∧ J ((beB w N).take k) wr ∧ Below n₀ W wr)
  (fun i _=>(intOf i + 1).toNat)
 case atStart=>exact ⟨0,Nat.zero_le _,by simp,h0,Below.refl _ _⟩
 case round=>
  obtain ⟨k,hk,rfl,hJs,hnx⟩:=hrel
  by_cases hlt : k < w
  ·have hlen : ((beB w N).take k).length < w:=by rw [List.length_take,beB_len];omega
   have hIS:=Lib.hid (beB_succ w N k hlt)
   have hc2 : wr.cell? ⟨B2,0,none⟩ = some (.int .u64 N):=by rw [hnx.cell (p:=⟨B2,0,none⟩) hp2];exact hB2
   have HNX:=Lib.hid hnx
   have g1 : 0 ≤ (w : Int) - 1 - (k : Int):=by omega
   have g2 : (w : Int) - 1 - (k : Int) ≤ 7:=by omega
   obtain ⟨fn,tmps,assign,body,hy,hR⟩:=hY _ (N / 2 ^ (8 * (w - 1 - k)) % 256) wr hJs hlen
   simp only [encB] at hy
   clear hnx
   gi_wp2
   refine hR.mono ?_
   rintro e W3 (⟨rfl,hJ3,hk3⟩ | ⟨rfl,hJx3⟩)
   ·gi_wp2
    go_roundw
    case rel=>exact ⟨k + 1,by omega,by congr 1;omega,by rw [hIS.out];exact hJ3,HNX.out.trans hk3⟩
    case measure=>simp [intOf];omega
   ·gi_wp2
    refine bodyPost_ret (results_none rfl _ _ _) rfl ?_
    exact ⟨⟨_,rfl⟩,.inr ⟨_,by rw [← hIS.out];exact List.take_prefix _ _,hJx3⟩⟩
  ·obtain rfl : k = w:=by omega
   clear hlt
   gi_wp2
   go_end0
   exact ⟨⟨_,rfl⟩,.inl ⟨_,by rw [List.take_of_length_le (by rw [beB_len];exact Nat.le_refl _)],hJs⟩⟩
theorem be_stops (n : Nat) (hn : 1 ≤ n) (B1 B2 n₀ : Nat) (N : Int) (w : Nat) (hw : w ≤ 8) (hN0 : 0 ≤ N) (hN1 : N < 18446744073709551616) (W : World) (hn0 : n₀ ≤ W.heap.size) (hp1 : B1 < n₀) (hp2 : B2 < n₀)
  (hB1 : W.cell? ⟨B1,0,none⟩ = some (.int .i64 w)) (hB2 : W.cell? ⟨B2,0,none⟩ = some (.int .u64 N)) :
  SeqStopsK Fence.wide n Tryz.prog 330 #[.pointer (some ⟨B1,0,none⟩),.pointer (some ⟨B2,0,none⟩)] encB (Below n₀) (fun ys=>ys = beB w N) (fun pre=>pre <+: beB w N) w W:=fun l J Jx W2 hW hA _ hY h0=>
 be_in n hn l B1 B2 n₀ N w hw hN0 hN1 hp1 hp2 J Jx hA hY W2 (Nat.le_trans hn0 hW.size) ((hW.cell (p:=⟨B1,0,none⟩) (Nat.lt_of_lt_of_le hp1 hn0)).trans hB1) ((hW.cell (p:=⟨B2,0,none⟩) (Nat.lt_of_lt_of_le hp2 hn0)).trans hB2) h0
end
section
open Go.RowKit Go.Shelf
attribute [local go_sem] Oper.semAt_some
theorem cell_alloc_l {W : World} {a : Addr} {v : Value} (o : Obj) (h : W.cell? a = some v) : (W.alloc o).cell? a = some v:=cell_kept h (World.grownBy_alloc W o none) (fun r e=>by cases e)
theorem be_any (N : Int) (k : Nat) (w : World) : Calls Tryz.prog 314 #[.int .u64 N,.int .i64 k] w fun e w'=>
  e = .returned (.func (.func 330) #[] #[.pointer (some ⟨w.heap.size + 1,0,none⟩),.pointer (some ⟨w.heap.size,0,none⟩)]) ∧ w' = (w.alloc (.cells #[.int .u64 N] 320)).alloc (.cells #[.int .i64 k] 3):=by
 go_enter Tryz.func314,Tryz.ntmps314
 go_wp2
 go_ret
 exact ⟨rfl,rfl⟩
theorem info5 : (Tryz.prog.info? 5).map (fun i=>(i.zero,i.size,i.bytes)) = some (some (.int .u8 0),1,1):=by kernel_rfl
theorem collect_any (N : Int) (k : Nat) (w : World) (hk : k ≤ 8) (hN0 : 0 ≤ N) (hN1 : N < 18446744073709551616) (B1 B2 : Nat) (hp1 : B1 < w.heap.size) (hp2 : B2 < w.heap.size)
  (hB1 : w.cell? ⟨B1,0,none⟩ = some (.int .i64 k)) (hB2 : w.cell? ⟨B2,0,none⟩ = some (.int .u64 N)) :
  Calls Tryz.prog 313 #[.func (.func 330) #[] #[.pointer (some ⟨B1,0,none⟩),.pointer (some ⟨B2,0,none⟩)]] w fun e w'=>
   e = .returned (.string (strOfNums (beB k N))) ∧ Below w.heap.size w w':=by
 obtain ⟨i0,hi,hz0,hz1,hz2⟩:=info_parts info5
 refine (callsIn_wide (n:=4)).1 ?_
 refine callsIn_of_wp_marks Tryz.func313 rfl trivial ?_ rfl
 simp only [Tryz.ntmps313,List.size_toArray,List.length_cons,List.length_nil,Nat.reduceAdd,Nat.reduceSub,Array.replicate_succ,Array.replicate_zero,List.push_toArray,List.append_toArray,List.nil_append,List.cons_append]
 gi_wp2
 have bO:=Boxed.new w 52 (.slice none 0 0)
 have hB0 : Below w.heap.size w (w.alloc (.cells #[.slice none 0 0] 52)):=(Below.refl _ w).alloc (Nat.le_refl _) _
 have hS:=be_stops (4 - 1) (by decide) B1 B2 w.heap.size N k hk hN0 hN1 (w.alloc (.cells #[.slice none 0 0] 52)) (by simp) hp1 hp2 (cell_alloc_l _ hB1) (cell_alloc_l _ hB2)
 refine wpIn_rangeFunc_ownG rfl (by decide) (gf:=330) (lb:=#[.pointer (some ⟨B1,0,none⟩),.pointer (some ⟨B2,0,none⟩)]) rfl trivial (enters_of Tryz.func330 (by kernel_rfl) rfl)
  hS belowK_t (belowK_b (by simp)) bz0 (fun _=>rfl)
  (fun (pre : List Int) W=>(∃ v,Boxed W w.heap.size 52 v ∧ W.ownsRow w.heap.size 5 1 v pre.length (pre.map (Value.int .u8)) ∧ True) ∧ Below w.heap.size w W)
  (fun _ _ _=>False)
  (OwnFrom.and (Own.from (holdsRow_own w.heap.size w.heap.size 52 5 1 (fun (pre : List Int)=>pre.length) (fun (pre : List Int)=>pre.map (Value.int .u8)) (fun _ _=>True)) _) (ownFrom_below (Nat.le_refl _) (by simp)))
  (fun _ _ _ _ _ hs _ _=>hs)
  ⟨⟨_,bO,World.ownsRow_nil _ _ _ _,trivial⟩,hB0⟩
  (fun x=>{ tmps:=#[Value.func (Fn.func 330) #[] #[Value.pointer (some { block:=B1,off:=0 }),Value.pointer (some { block:=B2,off:=0 })],undef,Value.string { data:=#[] },Value.pointer (some { block:=w.heap.size,off:=0 }),.int .u8 x,Value.func (Fn.func 330) #[] #[Value.pointer (some { block:=B1,off:=0 }),Value.pointer (some { block:=B2,off:=0 })],.int .u8 x,undef,undef,undef,undef,undef,undef],defers:=[] }) ?assign ?body ?done ?stop
 case assign=>
  intro l x W K hK
  simp only [encB]
  gi_wp2
  exact hK
 case body=>
  rintro l pre x W ⟨⟨v,hv,hrow,_⟩,hB⟩ hlt
  have hc:=hv.cell
  gi_wp2_with (gi_at_builtin;refine wpListIn_append_own _ rfl _ _ 52 rfl w.heap.size 5 i0 (.int .u8 0) 1 1 Tryz.underlying52 hi hz0 hz1 hz2 rfl (by decide) _ _ _ rfl (hrow.alloc _) ⟨W.heap.size,0,none⟩ 1 1 [.int .u8 x] rfl rfl (cell_one_new _ _ _) (by simp [Value.oneCell']) (by unfold maxLen;omega) (by omega) (by have:=hB.size;simp;omega) ?_;intro v' w1 hown' hgrow _;obtain ⟨g',cap',rfl⟩:=ownsRow_succ hown';obtain ⟨hv1,hv2,hr2,hk2,hb2⟩:=hv.appended (by decide) hrow hB.size (Nat.le_refl _) hown' hgrow;have hc1:=hv1.cell;have hf1:=hv1.frozen)
  exact ⟨hk2.from _,hb2,⟨_,hv2,by simpa using hr2,trivial⟩,hB.trans hb2⟩
 case done=>
  rintro D ys W hD rfl ⟨⟨v,hv,hrow,_⟩,hB⟩ hK
  have hc:=hv.cell
  have hsz:=hB.size
  rw [beB_len] at hrow
  rcases hrow.2 with ⟨rfl,h0⟩ | ⟨g,cap,cur,rfl,hb,hg,hn,hm,hcs,htake⟩
  ·subst h0
   have hcv:=fun (w : World)=>run_convert_bytes_nil (P:=Tryz.prog) w 52 5 Tryz.underlying52 Tryz.underlying5 0 0 9 Tryz.underlying9
   gi_wp2
   refine ⟨by simp,.inl ⟨_,_,rfl,run_takeDeferred hK,?_⟩⟩
   exact ⟨_,results_tmp rfl _ _ _,rfl,hB.trans (belowK_b (w:=w) (Nat.le_refl _) W D _ _ (by simp at hD;omega) hK rfl rfl)⟩
  ·have hcv:=run_convert_bytes_arg (P:=Tryz.prog) W 52 5 Tryz.underlying52 Tryz.underlying5 g 0 k cap (beB k N) (beB_len k N) (fun i hi=>by
    have:=hrow.cells (g:=g) rfl i (.int .u8 ((beB k N).getD i 0)) (by rw [List.getElem?_map,List.getElem?_eq_getElem (by rw [beB_len];exact hi)];simp [List.getD,List.getElem?_eq_getElem (show i < (beB k N).length by rw [beB_len];exact hi)])
    rw [add_plain] at this
    exact this) 9 Tryz.underlying9
   gi_wp2
   refine ⟨by simp,.inl ⟨_,_,rfl,run_takeDeferred hK,?_⟩⟩
   exact ⟨_,results_tmp rfl _ _ _,rfl,hB.trans (belowK_b (w:=w) (Nat.le_refl _) W D _ _ (by simp at hD;omega) hK rfl rfl)⟩
 case stop=>
  rintro D c pre W _ _ h _
  exact h.elim
theorem be_then (N : Int) (k : Nat) (w1 : World) (hk : k ≤ 8) (hN0 : 0 ≤ N) (hN1 : N < 18446744073709551616) :
  Calls Tryz.prog 313 #[.func (.func 330) #[] #[.pointer (some ⟨w1.heap.size + 1,0,none⟩),.pointer (some ⟨w1.heap.size,0,none⟩)]] ((w1.alloc (.cells #[.int .u64 N] 320)).alloc (.cells #[.int .i64 k] 3)) fun e w'=>
   e = .returned (.string (strOfNums (beB k N))) ∧ Below w1.heap.size w1 w':=by
 have c1 : ((w1.alloc (.cells #[.int .u64 N] 320)).alloc (.cells #[.int .i64 k] 3)).cell? ⟨w1.heap.size + 1,0,none⟩ = some (.int .i64 k):=by
  have:=(Boxed.new (w1.alloc (.cells #[.int .u64 N] 320)) 3 (.int .i64 k)).cell
  rwa [World.size_alloc] at this
 refine (collect_any N k _ hk hN0 hN1 (w1.heap.size + 1) w1.heap.size (by simp) (by simp;omega) c1 (cell_alloc_l _ (Boxed.new w1 320 _).cell)).mono ?_
 rintro e w' ⟨he,hb⟩
 exact ⟨he,(((Below.refl _ w1).alloc (Nat.le_refl _) _).alloc (by simp) _).trans (hb.mono (by simp;omega))⟩
theorem or_top (n C : Nat) (c i : Nat) (hC : C = c <<< i) (h : n < 2 ^ i) : n ||| C = n + C:=by
 subst hC
 have:=Nat.shiftLeft_add_eq_or_of_lt h c
 rw [Nat.or_comm,← this,Nat.add_comm]
def encV (n : Int) : List Int:=if cls n < 0 then [] else beB (2 ^ (cls n).toNat) (n + cls n * 2 ^ (8 * 2 ^ (cls n).toNat - 2))
theorem enc_0 (n : Int) (w : World) (h : cls n = 0) (h0 : 0 ≤ n) (h1 : n ≤ 63) : Calls Tryz.prog 283 #[.int .i64 n] w fun e w'=>e = .returned (.tuple #[.string (strOfNums (encV n)),.int .i64 0]) ∧ Below w.heap.size w w':=by
 have E : Hid (encV n = beB 1 (n + 0)):=Lib.hid (by unfold encV;rw [h];rfl)
 have CL:=Lib.hid (class_any n w)
 rw [h] at CL
 clear h
 have HO : bits .or .u64 n 0 = n + 0:=by
  obtain ⟨m,rfl⟩:=Int.eq_ofNat_of_zero_le h0
  have e:=or_top m 0 0 6 (by decide) (by omega)
  rw [show ((0 : Int)) = ((0 : Nat) : Int) from rfl,u64_or_nat _ _ (by omega) (by omega),e]
  simp
 have BE:=Lib.hid (be_any (bits .or .u64 n 0) 1)
 have CO:=Lib.hid (fun w=>be_then (bits .or .u64 n 0) 1 w (by decide) (by omega) (by omega))
 have HH:=Lib.hid HO
 clear HO
 go_enter Tryz.func283,Tryz.ntmps283
 go_wp2_with (first | (go_at_call 312;refine CL.out.mono ?_;rintro e w1 ⟨rfl,hb⟩) | (go_at_call 314;refine (BE.out _).mono ?_;rintro e w2 ⟨rfl,rfl⟩) | (go_at_call 313;refine (CO.out _).mono ?_;rintro e w3 ⟨rfl,hb3⟩))
 go_ret2
 exact ⟨by rw [E.out,HH.out];rfl,btrans hb hb3⟩
theorem enc_1 (n : Int) (w : World) (h : cls n = 1) (h0 : 0 ≤ n) (h1 : n ≤ 16383) : Calls Tryz.prog 283 #[.int .i64 n] w fun e w'=>e = .returned (.tuple #[.string (strOfNums (encV n)),.int .i64 0]) ∧ Below w.heap.size w w':=by
 have E : Hid (encV n = beB 2 (n + 16384)):=Lib.hid (by unfold encV;rw [h];rfl)
 have CL:=Lib.hid (class_any n w)
 rw [h] at CL
 clear h
 have HO : bits .or .u64 n 16384 = n + 16384:=by
  obtain ⟨m,rfl⟩:=Int.eq_ofNat_of_zero_le h0
  have e:=or_top m 16384 1 14 (by decide) (by omega)
  rw [show ((16384 : Int)) = ((16384 : Nat) : Int) from rfl,u64_or_nat _ _ (by omega) (by omega),e]
  simp
 have BE:=Lib.hid (be_any (bits .or .u64 n 16384) 2)
 have CO:=Lib.hid (fun w=>be_then (bits .or .u64 n 16384) 2 w (by decide) (by omega) (by omega))
 have HH:=Lib.hid HO
 clear HO
 go_enter Tryz.func283,Tryz.ntmps283
 go_wp2_with (first | (go_at_call 312;refine CL.out.mono ?_;rintro e w1 ⟨rfl,hb⟩) | (go_at_call 314;refine (BE.out _).mono ?_;rintro e w2 ⟨rfl,rfl⟩) | (go_at_call 313;refine (CO.out _).mono ?_;rintro e w3 ⟨rfl,hb3⟩))
 go_ret2
 exact ⟨by rw [E.out,HH.out];rfl,btrans hb hb3⟩
theorem enc_2 (n : Int) (w : World) (h : cls n = 2) (h0 : 0 ≤ n) (h1 : n ≤ 1073741823) : Calls Tryz.prog 283 #[.int .i64 n] w fun e w'=>e = .returned (.tuple #[.string (strOfNums (encV n)),.int .i64 0]) ∧ Below w.heap.size w w':=by
 have E : Hid (encV n = beB 4 (n + 2147483648)):=Lib.hid (by unfold encV;rw [h];rfl)
 have CL:=Lib.hid (class_any n w)
 rw [h] at CL
 clear h
 have HO : bits .or .u64 n 2147483648 = n + 2147483648:=by
  obtain ⟨m,rfl⟩:=Int.eq_ofNat_of_zero_le h0
  have e:=or_top m 2147483648 2 30 (by decide) (by omega)
  rw [show ((2147483648 : Int)) = ((2147483648 : Nat) : Int) from rfl,u64_or_nat _ _ (by omega) (by omega),e]
  simp
 have BE:=Lib.hid (be_any (bits .or .u64 n 2147483648) 4)
 have CO:=Lib.hid (fun w=>be_then (bits .or .u64 n 2147483648) 4 w (by decide) (by omega) (by omega))
 have HH:=Lib.hid HO
 clear HO
 go_enter Tryz.func283,Tryz.ntmps283
 go_wp2_with (first | (go_at_call 312;refine CL.out.mono ?_;rintro e w1 ⟨rfl,hb⟩) | (go_at_call 314;refine (BE.out _).mono ?_;rintro e w2 ⟨rfl,rfl⟩) | (go_at_call 313;refine (CO.out _).mono ?_;rintro e w3 ⟨rfl,hb3⟩))
 go_ret2
 exact ⟨by rw [E.out,HH.out];rfl,btrans hb hb3⟩
theorem enc_3 (n : Int) (w : World) (h : cls n = 3) (h0 : 0 ≤ n) (h1 : n ≤ 4611686018427387903) : Calls Tryz.prog 283 #[.int .i64 n] w fun e w'=>e = .returned (.tuple #[.string (strOfNums (encV n)),.int .i64 0]) ∧ Below w.heap.size w w':=by
 have E : Hid (encV n = beB 8 (n + 13835058055282163712)):=Lib.hid (by unfold encV;rw [h];rfl)
 have CL:=Lib.hid (class_any n w)
 rw [h] at CL
 clear h
 have HO : bits .or .u64 n 13835058055282163712 = n + 13835058055282163712:=by
  obtain ⟨m,rfl⟩:=Int.eq_ofNat_of_zero_le h0
  have e:=or_top m 13835058055282163712 3 62 (by decide) (by omega)
  rw [show ((13835058055282163712 : Int)) = ((13835058055282163712 : Nat) : Int) from rfl,u64_or_nat _ _ (by omega) (by omega),e]
  simp
 have BE:=Lib.hid (be_any (bits .or .u64 n 13835058055282163712) 8)
 have CO:=Lib.hid (fun w=>be_then (bits .or .u64 n 13835058055282163712) 8 w (by decide) (by omega) (by omega))
 have HH:=Lib.hid HO
 clear HO
 go_enter Tryz.func283,Tryz.ntmps283
 go_wp2_with (first | (go_at_call 312;refine CL.out.mono ?_;rintro e w1 ⟨rfl,hb⟩) | (go_at_call 314;refine (BE.out _).mono ?_;rintro e w2 ⟨rfl,rfl⟩) | (go_at_call 313;refine (CO.out _).mono ?_;rintro e w3 ⟨rfl,hb3⟩))
 go_ret2
 exact ⟨by rw [E.out,HH.out];rfl,btrans hb hb3⟩
theorem enc_any (n : Int) (w : World) (h : 0 ≤ cls n) : Calls Tryz.prog 283 #[.int .i64 n] w fun e w'=>e = .returned (.tuple #[.string (strOfNums (encV n)),.int .i64 0]) ∧ Below w.heap.size w w':=by
 by_cases h0 : n < 0
 ·unfold cls at h;rw [if_pos h0] at h;omega
 by_cases h1 : n ≤ 63
 ·exact enc_0 n w (by unfold cls;rw [if_neg h0,if_pos h1]) (by omega) h1
 by_cases h2 : n ≤ 16383
 ·exact enc_1 n w (by unfold cls;rw [if_neg h0,if_neg h1,if_pos h2]) (by omega) h2
 by_cases h3 : n ≤ 1073741823
 ·exact enc_2 n w (by unfold cls;rw [if_neg h0,if_neg h1,if_neg h2,if_pos h3]) (by omega) h3
 by_cases h4 : n ≤ 4611686018427387903
 ·exact enc_3 n w (by unfold cls;rw [if_neg h0,if_neg h1,if_neg h2,if_neg h3,if_pos h4]) (by omega) h4
 ·unfold cls at h;rw [if_neg h0,if_neg h1,if_neg h2,if_neg h3,if_neg h4] at h;omega
end
section
open Go.RowKit
def fnv (k : Nat) : Value:=.func (.func k) #[] #[]
def intP (n : Nat) : Array Value:=#[.func (.func 226) #[] #[.pointer (some ⟨n + 1,0,none⟩),.pointer (some ⟨n,0,none⟩)],.func (.func 228) #[] #[.pointer (some ⟨n + 1,0,none⟩)],.func (.func 230) #[] #[.pointer (some ⟨n + 1,0,none⟩)]]
def txtP (n : Nat) : Array Value:=#[.func (.func 231) #[] #[.pointer (some ⟨n,0,none⟩),.pointer (some ⟨n + 1,0,none⟩)],fnv 232,fnv 234]
def fixP (n : Nat) : Array Value:=#[.func (.func 235) #[] #[.pointer (some ⟨n + 1,0,none⟩),.pointer (some ⟨n,0,none⟩)],.func (.func 236) #[] #[.pointer (some ⟨n,0,none⟩),.pointer (some ⟨n + 1,0,none⟩)],.func (.func 237) #[] #[.pointer (some ⟨n + 1,0,none⟩)]]
def uniP : Array Value:=#[fnv 238,fnv 239,fnv 240]
def retP (n : Nat) : Array Value:=#[fnv 242,.func (.func 228) #[] #[.pointer (some ⟨n + 1,0,none⟩)],.func (.func 230) #[] #[.pointer (some ⟨n + 1,0,none⟩)]]
theorem integer_any (m : Int) (k : Nat) (w : World) : Calls Tryz.prog 157 #[.int .i64 m,fnv k] w fun e w'=>
  e = .returned (.agg (intP w.heap.size)) ∧ w'.heap[w.heap.size]? = some (.cells #[.int .i64 m] 3 (0,0)) ∧ w'.heap[w.heap.size + 1]? = some (.cells #[fnv k] 245 (0,0)) ∧ Below w.heap.size w w':=by
 have F:=Lib.hid (fun o=>box3 w (.cells #[.int .i64 m] 3) (.cells #[fnv k] 245) o)
 unfold fnv intP at *
 go_enter Tryz.func157,Tryz.ntmps157
 go_wp2
 refine bodyPost_ret (v:=.agg (intP w.heap.size)) (by simp [results,Tryz.results157,go_sem,intP]) rfl ⟨rfl,(F.out _).1,(F.out _).2.1,(F.out _).2.2.2.1⟩
theorem text_any (l m : Int) (w : World) : Calls Tryz.prog 165 #[.int .i64 l,.int .i64 m] w fun e w'=>
  e = .returned (.agg (txtP w.heap.size)) ∧ w'.heap[w.heap.size]? = some (.cells #[.int .i64 l] 3 (0,0)) ∧ w'.heap[w.heap.size + 1]? = some (.cells #[.int .i64 m] 3 (0,0)) ∧ Below w.heap.size w w':=by
 have F:=Lib.hid (fun o=>box3 w (.cells #[.int .i64 l] 3) (.cells #[.int .i64 m] 3) o)
 unfold txtP fnv at *
 go_enter Tryz.func165,Tryz.ntmps165
 go_wp2
 refine bodyPost_ret (v:=.agg (txtP w.heap.size)) (by simp [results,Tryz.results165,go_sem,txtP,fnv]) rfl ⟨rfl,(F.out _).1,(F.out _).2.1,(F.out _).2.2.2.1⟩
theorem fixed_any (m : Int) (k : Nat) (w : World) : Calls Tryz.prog 166 #[.int .i64 m,fnv k] w fun e w'=>
  e = .returned (.agg (fixP w.heap.size)) ∧ w'.heap[w.heap.size]? = some (.cells #[.int .i64 m] 3 (0,0)) ∧ w'.heap[w.heap.size + 1]? = some (.cells #[fnv k] 249 (0,0)) ∧ Below w.heap.size w w':=by
 have F:=Lib.hid (fun o=>box3 w (.cells #[.int .i64 m] 3) (.cells #[fnv k] 249) o)
 unfold fnv fixP at *
 go_enter Tryz.func166,Tryz.ntmps166
 go_wp2
 refine bodyPost_ret (v:=.agg (fixP w.heap.size)) (by simp [results,Tryz.results166,go_sem,fixP]) rfl ⟨rfl,(F.out _).1,(F.out _).2.1,(F.out _).2.2.2.1⟩
theorem uni_any (w : World) : Calls Tryz.prog 172 #[] w fun e w'=>e = .returned (.agg uniP) ∧ Below w.heap.size w w':=by
 unfold uniP fnv
 go_enter Tryz.func172,Tryz.ntmps172
 go_wp2
 refine bodyPost_ret (v:=.agg uniP) (by simp [results,Tryz.results172,go_sem,uniP,fnv]) rfl ⟨rfl,bz0.alloc (Nat.le_refl _) _⟩
end
section
open Go.RowKit
def isC : Obj → Bool
 | .cells _ _ _=>true
 | _=>false
structure Os (w0 : World) (os : List (Nat × Obj)) (w : World) : Prop where
 bel : Below w0.heap.size w0 w
 ho : ∀ x ∈ os,w.heap[x.1]? = some x.2 ∧ isC x.2 = true
theorem Os.start (w0 : World) : Os w0 [] w0:=⟨Below.refl _ _,fun x hx=>by cases hx⟩
variable {w0 w w' : World} {os : List (Nat × Obj)}
theorem Os.below (h : Os w0 os w) (hb : Below w.heap.size w w') : Os w0 os w':=⟨btrans h.bel hb,fun x hx=>⟨heap_below hb (h.ho x hx).1,(h.ho x hx).2⟩⟩
theorem Os.drew (h : Os w0 os w) : Os w0 os w.drew:=⟨h.bel.drew,h.ho⟩
theorem Os.add (h : Os w0 os w) {k : Nat} {o : Obj} (hk : w.heap[k]? = some o) (hc : isC o = true) : Os w0 ((k,o) :: os) w:=
 by
 refine ⟨h.bel,fun x hx=>?_⟩
 rcases List.mem_cons.1 hx with rfl | hx
 ·exact ⟨hk,hc⟩
 ·exact h.ho x hx
theorem Os.alloc (h : Os w0 os w) (o : Obj) (hc : isC o = true) : Os w0 ((w.heap.size,o) :: os) (w.alloc o):=
 (h.below ((Below.refl _ w).alloc (Nat.le_refl _) o)).add (heap_alloc_new w o) hc
theorem Os.at (h : Os w0 os w) {k : Nat} {o : Obj} (hx : (k,o) ∈ os) : w.heap[k]? = some o:=(h.ho _ hx).1
theorem MapAt.no_cells {k : TypeId} {b n : Nat} {D : DataW Value} (h : MapAt w k b n D) {o : Obj} (ho : w.heap[b]? = some o) : isC o = false:=by
 obtain ⟨es,clock,hb,_⟩:=h
 rw [hb] at ho
 cases ho
 rfl
theorem Os.insert (h : Os w0 os w) {k : TypeId} {b n : Nat} {D : DataW Value} (hm : MapAt w k b n D) (hb : w0.heap.size ≤ b) (hg : w.grownBy w' (some b)) : Os w0 os w':=
 ⟨below_grown h.bel hg hb,fun x hx=>⟨heap_grown hg (h.ho x hx).1 (fun e=>by have:=hm.no_cells (e ▸ (h.ho x hx).1);rw [(h.ho x hx).2] at this;cases this),(h.ho x hx).2⟩⟩
end
section
open Go.RowKit
theorem size241 : (Tryz.prog.info? 241).map (·.size) = some 3:=by kernel_rfl
theorem int_ex (m : Int) (k : Nat) (w : World) : Calls Tryz.prog 157 #[.int .i64 m,.func (.func k) #[] #[]] w fun e w'=>∃ n,
  e = .returned (.agg #[.func (.func 226) #[] #[.pointer (some ⟨n + 1,0,none⟩),.pointer (some ⟨n,0,none⟩)],.func (.func 228) #[] #[.pointer (some ⟨n + 1,0,none⟩)],.func (.func 230) #[] #[.pointer (some ⟨n + 1,0,none⟩)]]) ∧
  w'.heap[n]? = some (.cells #[.int .i64 m] 3 (0,0)) ∧ w'.heap[n + 1]? = some (.cells #[.func (.func k) #[] #[]] 245 (0,0)) ∧ Below w.heap.size w w':=(integer_any m k w).mono fun _ _ h=>⟨_,h.1,h.2⟩
theorem txt_ex (l m : Int) (w : World) : Calls Tryz.prog 165 #[.int .i64 l,.int .i64 m] w fun e w'=>∃ n,
  e = .returned (.agg #[.func (.func 231) #[] #[.pointer (some ⟨n,0,none⟩),.pointer (some ⟨n + 1,0,none⟩)],.func (.func 232) #[] #[],.func (.func 234) #[] #[]]) ∧
  w'.heap[n]? = some (.cells #[.int .i64 l] 3 (0,0)) ∧ w'.heap[n + 1]? = some (.cells #[.int .i64 m] 3 (0,0)) ∧ Below w.heap.size w w':=(text_any l m w).mono fun _ _ h=>⟨_,h.1,h.2⟩
theorem fix_ex (m : Int) (k : Nat) (w : World) : Calls Tryz.prog 166 #[.int .i64 m,.func (.func k) #[] #[]] w fun e w'=>∃ n,
  e = .returned (.agg #[.func (.func 235) #[] #[.pointer (some ⟨n + 1,0,none⟩),.pointer (some ⟨n,0,none⟩)],.func (.func 236) #[] #[.pointer (some ⟨n,0,none⟩),.pointer (some ⟨n + 1,0,none⟩)],.func (.func 237) #[] #[.pointer (some ⟨n + 1,0,none⟩)]]) ∧
  w'.heap[n]? = some (.cells #[.int .i64 m] 3 (0,0)) ∧ w'.heap[n + 1]? = some (.cells #[.func (.func k) #[] #[]] 249 (0,0)) ∧ Below w.heap.size w w':=(fixed_any m k w).mono fun _ _ h=>⟨_,h.1,h.2⟩
theorem uni_ex (w : World) : Calls Tryz.prog 172 #[] w fun e w'=>e = .returned (.agg #[.func (.func 238) #[] #[],.func (.func 239) #[] #[],.func (.func 240) #[] #[]]) ∧ Below w.heap.size w w':=uni_any w
theorem ret_ex (w : World) : Calls Tryz.prog 173 #[] w fun e w'=>∃ n,
  e = .returned (.agg #[.func (.func 242) #[] #[],.func (.func 228) #[] #[.pointer (some ⟨n + 1,0,none⟩)],.func (.func 230) #[] #[.pointer (some ⟨n + 1,0,none⟩)]]) ∧
  w'.heap[n]? = some (.cells #[.int .i64 4611686018427387903] 3 (0,0)) ∧ w'.heap[n + 1]? = some (.cells #[.func (.func 241) #[] #[]] 245 (0,0)) ∧ Below w.heap.size w w':=by
 go_enter Tryz.func173,Tryz.ntmps173
 go_wp2_with fail
 refine (int_ex _ _ _).mono ?_
 rintro e w1 ⟨n,rfl,h0,h1,hb⟩
 have hz : w.heap.size < w1.heap.size:=Nat.lt_of_lt_of_le (by simp) hb.size
 have hR:=heap_below hb (heap_alloc_new w _)
 have r0:=at_whole hR 0 rfl
 have r1:=at_whole hR 1 rfl
 have r2:=at_whole hR 2 rfl
 have f0:=frozen_whole hR 0
 have f1:=frozen_whole hR 1
 have f2:=frozen_whole hR 2
 simp only [List.getElem_toArray,List.getElem_cons_zero,List.getElem_cons_succ] at r0 r1 r2
 have G:=Lib.hid (And.intro h0 (And.intro h1 (And.intro hb hR)))
 clear h0 h1 hb hR
 go_wp2
 obtain ⟨h0,h1,hb,hR⟩:=G.out
 have hw : Below w.heap.size w w1:=((Below.refl _ w).alloc (Nat.le_refl _) _).trans (hb.mono (by simp))
 have e0 : n ≠ w.heap.size:=fun e=>by rw [e,hR] at h0;cases h0
 have e1 : n + 1 ≠ w.heap.size:=fun e=>by rw [e,hR] at h1;cases h1
 have B:=((((Blk.start hR).set 0 (.func (.func 242) #[] #[])).set 1 (.func (.func 228) #[] #[.pointer (some ⟨n + 1,0,none⟩)])).set 2 (.func (.func 230) #[] #[.pointer (some ⟨n + 1,0,none⟩)])).alloc (.cells #[.func (.func 242) #[] #[],.func (.func 228) #[] #[.pointer (some ⟨n + 1,0,none⟩)],.func (.func 230) #[] #[.pointer (some ⟨n + 1,0,none⟩)]] 241)
 generalize World.alloc (World.setCell _ _ _) _ = W' at B ⊢
 have g:=B.2
 have c0:=at_whole B.1 0 rfl
 have c1:=at_whole B.1 1 rfl
 have c2:=at_whole B.1 2 rfl
 simp only [List.getElem_toArray,List.getElem_cons_zero,List.getElem_cons_succ,List.setIfInBounds_toArray,List.set_cons_zero,List.set_cons_succ] at c0 c1 c2
 refine bodyPost_ret (v:=.agg #[.func (.func 242) #[] #[],.func (.func 228) #[] #[.pointer (some ⟨n + 1,0,none⟩)],.func (.func 230) #[] #[.pointer (some ⟨n + 1,0,none⟩)]]) (by simp [results,Tryz.results173,go_sem,c0,c1,c2]) rfl ⟨n,rfl,heap_grown g h0 e0,heap_grown g h1 e1,below_grown hw g (Nat.le_refl _)⟩
end
section
open Go.RowKit Go.Maps
inductive Sp
 | mk
 | ld (p : Nat)
 | sl (xs : List Nat)
 | ins (k : Int) (t : Nat)
 | cl (f : Nat) (args : List Int)
 | mv (t : Nat)
 | asg (t : Nat)
def Sp.op : Sp → Op
 | .mk=>.makeMap 178 none
 | .ld p=>.load 241 (.tmp p)
 | .sl xs=>.buildSlice 176 xs.length ((xs.zipIdx.map fun x=>(x.2,Operand.tmp x.1)).toArray)
 | .ins k t=>.insert 178 (.tmp 25) (.const (.int .i64 k)) (.tmp t)
 | .cl f args=>.call { callee:=.value (.func f),args:=(args.map fun n=>Operand.const (.int .i64 n)).toArray,argTypes:=(args.map fun _=>3).toArray }
 | .mv t=>.move (.tmp t)
 | .asg t=>.assign (.tmp t)
def Sp.needs : Sp → List Nat
 | .sl xs=>xs
 | .ins _ t=>[25,t]
 | .mv t=>[t]
 | .asg t=>[t]
 | _=>[]
def rows : List (Option Nat × Sp):=[
 (some 25,.mk),(some 26,.sl []),(none,.ins 0 26),(some 27,.sl []),(none,.ins 1 27),(some 28,.sl []),
 (none,.ins 30 28),(some 29,.ld 7),(some 30,.ld 12),(some 31,.sl [29,30]),(none,.ins 2 31),(some 32,.ld 1),
 (some 33,.ld 4),(some 34,.ld 3),(some 35,.sl [32,33,34]),(none,.ins 4 35),(some 36,.ld 1),(some 37,.ld 4),
 (some 38,.sl [36,37]),(none,.ins 5 38),(some 39,.ld 5),(some 40,.ld 8),(some 41,.sl [39,40]),(none,.ins 6 41),
 (some 42,.cl 165 [1,128]),(some 43,.sl [42]),(none,.ins 7 43),(some 44,.ld 1),(some 45,.ld 5),(some 46,.ld 8),
 (some 47,.sl [44,45,46]),(none,.ins 8 47),(some 48,.ld 2),(some 49,.sl [48]),(none,.ins 16 49),(some 50,.ld 2),
 (some 51,.sl [50]),(none,.ins 20 51),(some 52,.ld 1),(some 53,.ld 2),(some 54,.sl [52,53]),(none,.ins 17 54),
 (some 55,.ld 1),(some 56,.ld 2),(some 57,.sl [55,56]),(none,.ins 21 57),(some 58,.cl 172 []),(some 59,.ld 2),
 (some 60,.sl [58,59]),(none,.ins 18 60),(some 61,.cl 172 []),(some 62,.ld 2),(some 63,.sl [61,62]),(none,.ins 22 63),
 (some 64,.ld 6),(some 65,.cl 173 []),(some 66,.ld 11),(some 67,.sl [64,65,66]),(none,.ins 24 67),(some 68,.ld 6),
 (some 69,.sl [68]),(none,.ins 25 69),(some 70,.ld 10),(some 71,.sl [70]),(none,.ins 26 71),(some 72,.ld 10),
 (some 73,.sl [72]),(none,.ins 27 73),(some 74,.ld 4),(some 75,.ld 9),(some 76,.sl [74,75]),(none,.ins 28 76),
 (some 77,.ld 4),(some 78,.ld 9),(some 79,.sl [77,78]),(none,.ins 29 79),(some 80,.mv 25),(some 0,.asg 80)]
def ix (t : Nat) : Nat:=rows.findIdx fun r=>r.1 == some t
structure Tab (ops : Array Oper) : Prop where
 form : ops.toList.map (fun o=>(o.dst,o.op,o.guard)) = rows.map (fun r=>(r.1,r.2.op,none))
 deps : ((List.range 78).all fun i=>match ops[i]?,rows[i]? with
  | some o,some r=>r.2.needs.all fun t=>o.after.any fun e=>Region.binds .any e && e.on == ix t
  | _,_=>false) = true
 up : upward ops = true
theorem rows_ix : ((List.range 78).all fun i=>match rows[i]? with
  | some (some d,_)=>ix d == i
  | _=>true) = true:=by decide +kernel
theorem rows_len : rows.length = 78:=by decide +kernel
theorem ix_of {i d : Nat} {s : Sp} (h : rows[i]? = some (some d,s)) : ix d = i:=by
 have hi : i < 78:=rows_len ▸ (List.getElem?_eq_some_iff.1 h).1
 have:=List.all_eq_true.1 rows_ix i (List.mem_range.2 hi)
 rw [h] at this
 simpa using this
variable {ops : Array Oper}
theorem Tab.row (T : Tab ops) {i : Nat} {o : Oper} (h : ops[i]? = some o) : ∃ s,rows[i]? = some (o.dst,s) ∧ o.op = s.op ∧ o.guard = none:=by
 have h1 : (ops.toList.map (fun o=>(o.dst,o.op,o.guard)))[i]? = some (o.dst,o.op,o.guard):=by
  rw [List.getElem?_map,Array.getElem?_toList,h];rfl
 rw [T.form,List.getElem?_map] at h1
 cases hr : rows[i]? with
 | none=>rw [hr] at h1;cases h1
 | some r=>
  rw [hr] at h1
  obtain ⟨d,s⟩:=r
  simp only [Option.map_some,Option.some.injEq,Prod.mk.injEq] at h1
  obtain ⟨rfl,h2,h3⟩:=h1
  exact ⟨s,rfl,h2.symm,h3.symm⟩
theorem Tab.needs (T : Tab ops) {i t : Nat} {o : Oper} {d : Option Nat} {s : Sp} (h : ops[i]? = some o) (hr : rows[i]? = some (d,s)) (ht : t ∈ s.needs) {L : Nat → Bool}
  (hL : ∀ e ∈ o.after,Region.binds .any e = true → L e.on = true) : L (ix t) = true:=by
 have hi : i < 78:=rows_len ▸ (List.getElem?_eq_some_iff.1 hr).1
 have:=List.all_eq_true.1 T.deps i (List.mem_range.2 hi)
 rw [h,hr] at this
 have:=List.all_eq_true.1 this t ht
 obtain ⟨j,hj,he⟩:=Array.any_eq_true.1 this
 simp only [Bool.and_eq_true,beq_iff_eq] at he
 rw [← he.2]
 exact hL _ (Array.getElem_mem hj) he.1
end
end Go.Proofs.YthckbmcmdcemkaaGreatDoor.frm
