/- Texts of this claim, one behind the other: SsB SsC SsD SsE. -/
import Derived.Test.YthckbmcmdcemkaaGreatDoorBs1
import Derived.RangeFuncNested
import Derived.RangeFuncBound
import Derived.RangeFuncCalls
import Derived.RangeFuncLeaves
import Derived.Shelf.Abstract
import Derived.Shelf.RegionOpen
import Derived.WalkKit
import Derived.OwnWalkIn
import Derived.TacticsInMore
import Derived.LoopNIn
import Derived.LoopIn
import Derived.Lib.Hide
import Derived.Laws.Rows
import Derived.Test.YthckbmcmdcemkaaGreatDoorProg
import Derived.Deep.WholeRow
import Derived.Handy
set_option maxRecDepth 100000
set_option maxHeartbeats 16000000
set_option linter.unusedSimpArgs false
set_option linter.unusedVariables false
namespace Go.Proofs.YthckbmcmdcemkaaGreatDoor.sst
section
open Go.RowKit Go.Shelf
attribute [local go_sem] Oper.semAt_some
theorem cell_alloc_l {W : World} {a : Addr} {v : Value} (o : Obj) (h : W.cell? a = some v) : (W.alloc o).cell? a = some v:=cell_kept h (World.grownBy_alloc W o none) (fun r e=>by cases e)
def tabCells (tab : List (Int × Int × Int)) : Array Value:=(tab.flatMap fun e=>[.int .i64 e.1,.int .i64 e.2.1,.int .i64 e.2.2]).toArray
def rowAt (tab : List (Int × Int × Int)) (k : Nat) : Int × Int × Int:=tab.getD k (0,0,0)
def hits (tab : List (Int × Int × Int)) (s v : Int) : List Int:=(tab.filter fun e=>e.1 == s && e.2.1 == v).map (·.2.2)
def hitsTo (tab : List (Int × Int × Int)) (s v : Int) (k : Nat) : List Int:=hits (tab.take k) s v
theorem hitsTo_succ (tab : List (Int × Int × Int)) (s v : Int) (k : Nat) (h : k < tab.length) :
  hitsTo tab s v (k + 1) = hitsTo tab s v k ++ (if (rowAt tab k).1 = s ∧ (rowAt tab k).2.1 = v then [(rowAt tab k).2.2] else []):=by
 unfold hitsTo hits rowAt
 rw [List.take_succ_eq_append_getElem h]
 simp only [List.filter_append,List.map_append,List.getD_eq_getElem?_getD,List.getElem?_eq_getElem h,Option.getD_some]
 congr 1
 by_cases hm : tab[k].1 = s ∧ tab[k].2.1 = v
 ·simp [hm.1,hm.2]
 ·simp only [hm,if_false]
  simp only [List.filter_cons,List.filter_nil]
  have : (tab[k].1 == s && tab[k].2.1 == v) = false:=by
   rw [Bool.and_eq_false_iff];simp only [beq_eq_false_iff_ne]
   by_cases h1 : tab[k].1 = s
   ·right;intro h2;exact hm ⟨h1,h2⟩
   ·left;exact h1
  simp [this]
theorem hitsTo_len (tab : List (Int × Int × Int)) (s v : Int) (k : Nat) : (hitsTo tab s v k).length ≤ k:=by
 unfold hitsTo hits;simp only [List.length_map]
 exact Nat.le_trans (List.length_filter_le _ _) (List.length_take_le _ _)
theorem hitsTo_pre (tab : List (Int × Int × Int)) (s v : Int) (k : Nat) : hitsTo tab s v k <+: hits tab s v:=by
 unfold hitsTo hits
 exact (List.IsPrefix.filter _ (List.take_prefix _ _)).map _
theorem tabCells_size (tab : List (Int × Int × Int)) : (tabCells tab).size = 3 * tab.length:=by
 unfold tabCells;induction tab with
 | nil=>rfl
 | cons a t ih=>simp at ih ⊢;omega
theorem tabCells_extract (tab : List (Int × Int × Int)) (k : Nat) (h : k < tab.length) :
  (tabCells tab).extract (k * 3) (k * 3 + 3) = #[.int .i64 (rowAt tab k).1,.int .i64 (rowAt tab k).2.1,.int .i64 (rowAt tab k).2.2]:=by
 unfold tabCells rowAt
 apply Array.toList_inj.1
 simp only [Array.toList_extract,List.extract_eq_take_drop,Nat.add_sub_cancel_left]
 induction tab generalizing k with
 | nil=>simp at h
 | cons a t ih=>
  cases k with
  | zero=>simp
  | succ k=>
   have:=ih k (by simpa using h)
   simp only [List.flatMap_cons,List.cons_append,List.nil_append]
   rw [show (k + 1) * 3 = k * 3 + 1 + 1 + 1 by omega]
   simpa using this
theorem run_idx (tab : List (Int × Int × Int)) (h : tab.length = 13) (k : Nat) (hk : k < 13) (w : World) :
  (Instr.index 285 (.agg (tabCells tab)) (.int .i64 k)).run Tryz.prog w = .ok (.agg #[.int .i64 (rowAt tab k).1,.int .i64 (rowAt tab k).2.1,.int .i64 (rowAt tab k).2.2]) w:=by
 have hs : (sizeOf 283).run Tryz.prog w = .ok 3 w:=by kernel_rfl
 have ha : (isAgg 283).run Tryz.prog w = .ok true w:=by kernel_rfl
 have e : ((k : Int) < 13):=by omega
 simp [Instr.index,asIntOf,run_underlying Tryz.underlying285,e,part,hs,ha]
 rw [if_pos hk,tabCells_extract tab k (by omega)]
theorem wpListIn_load_row' {F : Fence} {n : Nat} {P : Program} {ops : Array Oper} {rest : List Oper} {o : Oper} {a : Act} {w : World} {Q : Exit → Act → World → Prop} (hgd : o.guard = none) (ty : TypeId) (x : Operand) (ho : o.op = .load ty x)
  (g : Nat) (hx : a.eval x = .pointer (some ⟨g,0,none⟩)) (t : TypeId) (cs : Array Value) (fr : Nat × Nat) (d : TypeDesc) (hg : w.heap[g]? = some (.cells cs t fr))
  (hu : P.underlying ty = some d) (hd : (match d with | .struct _ | .array _ _=>true | _=>false) = true) (hi : (P.info? ty).map (·.size) = some cs.size)
  (h : wpListIn F n P ops Q rest (a.put o.dst (.agg cs)) w) : wpListIn F n P ops Q (o :: rest) a w:=by
 refine wpListIn_plain hgd fun K hK'=>?_
 unfold Oper.wpIn
 refine ⟨?_,?_⟩
 ·simp [Oper.about,ho]
 ·rw [Oper.semAt_plain F _ _ (by rw [ho];intro c hc';cases hc')]
  simp only [execOp,ho,hx,Instr.loadAt,Instr.sureAddr,Sem.run_bind,Sem.run_pure,Result.andThen_ok,run_loadVar_row w g t ty cs fr d hg hu hd hi]
  exact hK' _ _ h
/-- 'steps.of's closure. -/
theorem of1_in (F : Fence) (n : Nat) (h22 : F.fn 272) (hro : F.round = none) (hn : 1 ≤ n) (l Bt Bs Bv n₀ : Nat) (tab : List (Int × Int × Int)) (ht : tab.length = 13) (s v : Int)
  (ht0 : Bt < n₀) (hs0 : Bs < n₀) (hv0 : Bv < n₀) (J Jx : List Int → World → Prop) {m : Nat} (hJA : AbidesFrom m J)
  (hY : ∀ pre x W,J pre W → pre.length < 13 → YieldAt F (n - 1) Tryz.prog l #[.int .i64 x] W fun e W'=>
   (e = .returned (.bool true) ∧ J (pre ++ [x]) W' ∧ Below n₀ W W') ∨ (e = .returned (.bool false) ∧ Jx (pre ++ [x]) W'))
  (W : World) (hWn : n₀ ≤ W.heap.size) (hBt : W.heap[Bt]? = some (.cells (tabCells tab) 285 (0,0))) (hBs : W.cell? ⟨Bs,0,none⟩ = some (.int .i64 s)) (hBv : W.cell? ⟨Bv,0,none⟩ = some (.int .i64 v)) (h0 : J [] W) :
  CallsIn F n Tryz.prog 272 #[.func (.yield l) #[] #[],.pointer (some ⟨Bt,0,none⟩),.pointer (some ⟨Bs,0,none⟩),.pointer (some ⟨Bv,0,none⟩)] W fun e W'=>(∃ v,e = .returned v) ∧
   ((∃ ys,ys = hits tab s v ∧ J ys W') ∨ (∃ pre,(pre <+: hits tab s v ∧ pre ≠ []) ∧ Jx pre W')):=by
 refine callsIn_of_wp Tryz.func272 rfl h22 ?_ hro
 simp only [Tryz.ntmps272,List.size_toArray,List.length_cons,List.length_nil,Nat.reduceAdd,Nat.reduceSub,Array.replicate_succ,Array.replicate_zero,List.push_toArray,List.append_toArray,List.nil_append,List.cons_append]
 have hsz : (Tryz.prog.info? 285).map (·.size) = some (tabCells tab).size:=by rw [tabCells_size,ht];kernel_rfl
 gi_wp2_with (refine wpListIn_load_row' rfl 285 _ rfl Bt rfl 285 (tabCells tab) (0,0) _ hBt Tryz.underlying285 rfl hsz ?_)
 clear hsz
 gi_loopw [8] (fun i wr=>∃ k : Nat,k ≤ 13 ∧ i = .int .i64 k ∧ J (hitsTo tab s v k) wr ∧ Below n₀ W wr)
  (fun i _=>13 - (intOf i).toNat)
 case atStart=>exact ⟨0,Nat.zero_le _,rfl,h0,Below.refl _ _⟩
 case round=>
  obtain ⟨k,hk,rfl,hJs,hnx⟩:=hrel
  have hcs:=(hnx.cell (p:=⟨Bs,0,none⟩) hs0).trans hBs
  have hcv:=(hnx.cell (p:=⟨Bv,0,none⟩) hv0).trans hBv
  have hcs':=fun o=>cell_alloc_l (W:=wr) o hcs
  have hcv':=fun o=>cell_alloc_l (W:=wr) o hcv
  have hsz : n₀ ≤ wr.heap.size:=Nat.le_trans hWn hnx.size
  by_cases hlt : k < 13
  ·have hidx:=run_idx tab ht k hlt
   have hsucc:=Lib.hid (hitsTo_succ tab s v k (by omega))
   by_cases hm : (rowAt tab k).1 = s ∧ (rowAt tab k).2.1 = v
   ·have hms : ((rowAt tab k).1 == s) = true:=by simp [hm.1]
    have hmv : ((rowAt tab k).2.1 == v) = true:=by simp [hm.2]
    have hm':=Lib.hid hm
    clear hm
    obtain ⟨fn,tmps,assign,body,hy,hR⟩:=hY _ (rowAt tab k).2.2 (wr.alloc (.cells #[.int .i64 (rowAt tab k).1,.int .i64 (rowAt tab k).2.1,.int .i64 (rowAt tab k).2.2] 283)) (hJA _ _ _ none hJs (World.grownBy_alloc wr _ none) (fun r e=>by cases e)) (by have:=hitsTo_len tab s v k;omega)
    gi_wp2
    refine hR.mono ?_
    rintro e W3 (⟨rfl,hJ3,hk3⟩ | ⟨rfl,hJx3⟩)
    ·gi_wp2
     go_roundw
     case rel=>exact ⟨k + 1,by omega,by simp,by rw [hsucc.out,if_pos hm'.out];exact hJ3,(hnx.trans (by exact bz0.alloc hsz _)).trans hk3⟩
     case measure=>simp [intOf];omega
    ·gi_wp2
     refine bodyPost_ret (results_none rfl _ _ _) rfl ?_
     exact ⟨⟨_,rfl⟩,.inr ⟨_,⟨by have:=hitsTo_pre tab s v (k+1);rw [hsucc.out,if_pos hm'.out] at this;exact this,by simp⟩,hJx3⟩⟩
   ·have hm':=Lib.hid hm
    have hJ4:=(hJA _ _ _ none hJs (World.grownBy_alloc wr (.cells #[.int .i64 (rowAt tab k).1,.int .i64 (rowAt tab k).2.1,.int .i64 (rowAt tab k).2.2] 283) none) (fun r e=>by cases e))
    by_cases hms0 : (rowAt tab k).1 = s
    ·have hmv0 : ¬ (rowAt tab k).2.1 = v:=fun h=>hm ⟨hms0,h⟩
     have hms : ((rowAt tab k).1 == s) = true:=by simp [hms0]
     have hmv : ((rowAt tab k).2.1 == v) = false:=by simp [hmv0]
     clear hm hms0 hmv0
     gi_wp2
     refine ⟨fun _ h=>(by cases h),?_⟩
     gi_wp2
     go_roundw
     case rel=>exact ⟨k + 1,by omega,by simp,by rw [hsucc.out,if_neg hm'.out,List.append_nil];exact hJ4,hnx.trans (by exact bz0.alloc hsz _)⟩
     case measure=>simp [intOf];omega
    ·have hms : ((rowAt tab k).1 == s) = false:=by simp [hms0]
     clear hm hms0
     gi_wp2
     refine ⟨fun _ h=>(by cases h),?_⟩
     gi_wp2
     go_roundw
     case rel=>exact ⟨k + 1,by omega,by simp,by rw [hsucc.out,if_neg hm'.out,List.append_nil];exact hJ4,hnx.trans (by exact bz0.alloc hsz _)⟩
     case measure=>simp [intOf];omega
  ·obtain rfl : k = 13:=by omega
   gi_wp2
   go_end0
   exact ⟨⟨_,rfl⟩,.inl ⟨_,by unfold hitsTo;rw [← ht,List.take_length],hJs⟩⟩
end
section
open Go.RowKit Go.Shelf
attribute [local go_sem] Oper.semAt_some
theorem of_stops (F : Fence) (n : Nat) (h22 : F.fn 272) (hro : F.round = none) (hn : 1 ≤ n) (Bt Bs Bv : Nat) (tab : List (Int × Int × Int)) (ht : tab.length = 13) (s v : Int) (w : World)
  (ht0 : Bt < w.heap.size) (hs0 : Bs < w.heap.size) (hv0 : Bv < w.heap.size) (hBt : w.heap[Bt]? = some (.cells (tabCells tab) 285 (0,0))) (hBs : w.cell? ⟨Bs,0,none⟩ = some (.int .i64 s)) (hBv : w.cell? ⟨Bv,0,none⟩ = some (.int .i64 v)) :
  SeqStopsK F n Tryz.prog 272 #[.pointer (some ⟨Bt,0,none⟩),.pointer (some ⟨Bs,0,none⟩),.pointer (some ⟨Bv,0,none⟩)] (fun x : Int=>#[Value.int .i64 x]) (Below w.heap.size) (fun ys=>ys = hits tab s v) (fun pre=>pre <+: hits tab s v ∧ pre ≠ []) 13 w:=fun l J Jx W hW hA _ hY h0=>by
 refine (of1_in F n h22 hro hn l Bt Bs Bv w.heap.size tab ht s v ht0 hs0 hv0 J Jx hA hY W hW.size ?_ ?_ ?_ h0)
 ·exact (hW.block Bt ht0).trans hBt
 ·exact (hW.cell (p:=⟨Bs,0,none⟩) hs0).trans hBs
 ·exact (hW.cell (p:=⟨Bv,0,none⟩) hv0).trans hBv
def sendTab : List (Int × Int × Int):=[(0,1,1),(0,2,2),(0,4,3),(1,1,1),(1,2,2),(1,4,3),(2,3,4),(2,4,3),(3,5,5),(3,3,3),(4,4,4),(5,4,5),(5,4,5)]
def recvTab : List (Int × Int × Int):=[(0,6,1),(0,9,3),(1,6,1),(1,7,2),(1,9,3),(2,6,2),(2,8,4),(2,9,2),(3,6,3),(3,9,3),(3,10,5),(4,6,4),(4,9,4)]
theorem of_in (F : Fence) (n : Nat) (h20 : F.fn 218) (hro : F.round = none) (cs : Array Value) (hcs : cs.size = 39) (s v : Int) (w : World) :
  CallsIn F n Tryz.prog 218 #[.agg cs,.int .i64 s,.int .i64 v] w fun e w'=>e = .returned (.func (.func 272) #[] #[.pointer (some ⟨w.heap.size,0,none⟩),.pointer (some ⟨w.heap.size + 1,0,none⟩),.pointer (some ⟨w.heap.size + 1 + 1,0,none⟩)]) ∧
   w' = ((w.alloc (.cells cs 285)).alloc (.cells #[.int .i64 s] 3)).alloc (.cells #[.int .i64 v] 3):=by
 refine callsIn_of_wp Tryz.func218 rfl h20 ?_ hro
 simp only [Tryz.ntmps218,List.size_toArray,List.length_cons,List.length_nil,Nat.reduceAdd,Nat.reduceSub,Array.replicate_succ,Array.replicate_zero,List.push_toArray,List.append_toArray,List.nil_append,List.cons_append]
 gi_wp2
 go_ret
 exact ⟨rfl,rfl⟩
theorem zero40 : (∀ w,(zeroValue 285).run Tryz.prog w = .ok (.agg (tabCells (List.replicate 13 (0,0,0)))) w) ∧ (Tryz.prog.info? 285).map (·.size) = some 39:=zero_of_info (by kernel_rfl)
theorem sending_any (w : World) :
  Calls Tryz.prog 220 #[] w fun e w'=>e = .returned (.agg (tabCells sendTab)) ∧ w' = w.alloc (.cells (tabCells sendTab) 285):=by
 go_enter Tryz.func220,Tryz.ntmps220
 have hz:=zero40.1
 have hsz : (Tryz.prog.info? 285).map (·.size) = some (tabCells sendTab).size:=by kernel_rfl
 have hsz2 : (tabCells (List.replicate 13 (0,0,0))).size = (tabCells sendTab).size:=by kernel_rfl
 have h1c : (tabCells sendTab).all (·.oneCell') = true:=by kernel_rfl
 have hnew:=heap_alloc_new w (.cells (tabCells (List.replicate 13 (0,0,0))) 285)
 have H1:=Lib.hid hsz
 have H2:=Lib.hid hsz2
 have H3:=Lib.hid h1c
 have H4:=Lib.hid hnew
 clear hsz hsz2 h1c hnew
 go_wp2_with (first | ((with_reducible refine wpList_build rfl 285 _ rfl (by kernel_rfl) ?_);refine (congrArg (fun X=>wpList _ _ _ _ (Act.put _ _ (.agg X)) _) (show _ = tabCells sendTab from by kernel_rfl)).mpr ?_) | ((refine wpList_store_row rfl 285 _ _ rfl w.heap.size _ rfl rfl 285 _ H4.out H1.out H2.out H3.out ?_);rw [World.setRow_alloc_new]))
 refine bodyPost_ret (v:=.agg (tabCells sendTab)) (results_cell_row rfl _ _ _ 285 (tabCells sendTab) (0,0) _ rfl (heap_alloc_new w _) Tryz.underlying285 rfl H1.out) rfl ⟨rfl,rfl⟩
theorem receiving_any (w : World) :
  Calls Tryz.prog 217 #[] w fun e w'=>e = .returned (.agg (tabCells recvTab)) ∧ w' = w.alloc (.cells (tabCells recvTab) 285):=by
 go_enter Tryz.func217,Tryz.ntmps217
 have hz:=zero40.1
 have hsz : (Tryz.prog.info? 285).map (·.size) = some (tabCells recvTab).size:=by kernel_rfl
 have hsz2 : (tabCells (List.replicate 13 (0,0,0))).size = (tabCells recvTab).size:=by kernel_rfl
 have h1c : (tabCells recvTab).all (·.oneCell') = true:=by kernel_rfl
 have hnew:=heap_alloc_new w (.cells (tabCells (List.replicate 13 (0,0,0))) 285)
 have H1:=Lib.hid hsz
 have H2:=Lib.hid hsz2
 have H3:=Lib.hid h1c
 have H4:=Lib.hid hnew
 clear hsz hsz2 h1c hnew
 go_wp2_with (first | ((with_reducible refine wpList_build rfl 285 _ rfl (by kernel_rfl) ?_);refine (congrArg (fun X=>wpList _ _ _ _ (Act.put _ _ (.agg X)) _) (show _ = tabCells recvTab from by kernel_rfl)).mpr ?_) | ((refine wpList_store_row rfl 285 _ _ rfl w.heap.size _ rfl rfl 285 _ H4.out H1.out H2.out H3.out ?_);rw [World.setRow_alloc_new]))
 refine bodyPost_ret (v:=.agg (tabCells recvTab)) (results_cell_row rfl _ _ _ 285 (tabCells recvTab) (0,0) _ rfl (heap_alloc_new w _) Tryz.underlying285 rfl H1.out) rfl ⟨rfl,rfl⟩
end
section
open Go.RowKit Go.Shelf
attribute [local go_sem] Oper.semAt_some
def six (w : World) (T : Array Value) (s v : Int) : World:=
 (((((w.alloc (.cells #[.int .i64 0] 3)).alloc (.cells #[.int .i64 0] 26)).alloc (.cells T 285)).alloc (.cells T 285)).alloc (.cells #[.int .i64 s] 3)).alloc (.cells #[.int .i64 v] 3)
theorem six_size (w : World) (T : Array Value) (s v : Int) : (six w T s v).heap.size = w.heap.size + 6:=by simp [six]
theorem six_heap (w : World) (T : Array Value) (s v : Int) : (six w T s v).heap = (((((w.heap.push (.cells #[.int .i64 0] 3)).push (.cells #[.int .i64 0] 26)).push (.cells T 285)).push (.cells T 285)).push (.cells #[.int .i64 s] 3)).push (.cells #[.int .i64 v] 3):=rfl
theorem six_0 (w : World) (T : Array Value) (s v : Int) : (six w T s v).heap[w.heap.size]? = some (.cells #[.int .i64 0] 3):=by
 rw [six_heap];simp only [Array.getElem?_push,Array.size_push];repeat (rw [if_neg (by omega)])
 exact if_pos trivial
theorem six_1 (w : World) (T : Array Value) (s v : Int) : (six w T s v).heap[w.heap.size + 1]? = some (.cells #[.int .i64 0] 26):=by
 rw [six_heap];simp only [Array.getElem?_push,Array.size_push];repeat (rw [if_neg (by omega)])
 exact if_pos trivial
theorem six_3 (w : World) (T : Array Value) (s v : Int) : (six w T s v).heap[w.heap.size + 1 + 1 + 1]? = some (.cells T 285):=by
 rw [six_heap];simp only [Array.getElem?_push,Array.size_push];repeat (rw [if_neg (by omega)])
 exact if_pos trivial
theorem six_4 (w : World) (T : Array Value) (s v : Int) : (six w T s v).heap[w.heap.size + 1 + 1 + 1 + 1]? = some (.cells #[.int .i64 s] 3):=by
 rw [six_heap];simp only [Array.getElem?_push,Array.size_push];repeat (rw [if_neg (by omega)])
 exact if_pos trivial
theorem six_5 (w : World) (T : Array Value) (s v : Int) : (six w T s v).heap[w.heap.size + 1 + 1 + 1 + 1 + 1]? = some (.cells #[.int .i64 v] 3):=by
 rw [six_heap];simp only [Array.getElem?_push,Array.size_push];repeat (rw [if_neg (by omega)])
 exact if_pos trivial
theorem six_below (w : World) (T : Array Value) (s v : Int) : Below w.heap.size w (six w T s v):=by
 unfold six
 exact ((((((Below.refl _ w).alloc (Nat.le_refl _) _).alloc (by simp) _).alloc (by simp;omega) _).alloc (by simp;omega) _).alloc (by simp;omega) _).alloc (by simp;omega) _
theorem cell_of_heap {w : World} {g : Nat} {v : Value} {t : TypeId} (h : w.heap[g]? = some (.cells #[v] t)) : w.cell? ⟨g,0,none⟩ = some v:=by simp [World.cell?,h]
theorem frozen_of_heap {w : World} {g : Nat} {v : Value} {t : TypeId} (h : w.heap[g]? = some (.cells #[v] t)) : w.frozen? ⟨g,0,none⟩ = false:=by simp [World.frozen?,h]
def Cell01 (w : World) (g : Nat) (a b : Int) : Prop:=w.cell? ⟨g,0,none⟩ = some (.int .i64 a) ∧ w.frozen? ⟨g,0,none⟩ = false ∧ w.cell? ⟨g + 1,0,none⟩ = some (.int .i64 b) ∧ w.frozen? ⟨g + 1,0,none⟩ = false
theorem Cell01.own {β : Type} (f : β → Int × Int) (P : β → Prop) (g : Nat) : Own (fun (x : β) W=>P x ∧ Cell01 W g (f x).1 (f x).2):=
 fun _ _ _ _ hs hg hr=>⟨hs.1,cell_kept hs.2.1 hg hr,(frozen_kept hs.2.1 hg hr).trans hs.2.2.1,cell_kept hs.2.2.2.1 hg hr,(frozen_kept hs.2.2.2.1 hg hr).trans hs.2.2.2.2⟩
/-- what comes back -/
def back (l : List Int) : Value:=match l.head? with | some x=>.tuple #[.int .i64 x,.int .i64 0] | none=>.tuple #[.int .i64 0,.int .i64 180]
theorem send_in (s v : Int) (w : World) :
  CallsIn Fence.wide 3 Tryz.prog 148 #[.int .i64 s,.int .i64 v] w fun e W'=>e = .returned (back (hits sendTab s v)) ∧ Below w.heap.size w W':=by
 refine callsIn_of_wp_marks Tryz.func148 rfl trivial ?_ rfl
 simp only [Tryz.ntmps148,List.size_toArray,List.length_cons,List.length_nil,Nat.reduceAdd,Nat.reduceSub,Array.replicate_succ,Array.replicate_zero,List.push_toArray,List.append_toArray,List.nil_append,List.cons_append]
 gi_wp2_with (first | (refine ⟨trivial,?_⟩;gi_at_call 220;refine (callsIn_wide.2 (sending_any _)).mono ?_;rintro e w' ⟨rfl,rfl⟩) | (refine ⟨trivial,?_⟩;gi_at_call 218;refine (of_in Fence.wide _ trivial rfl (tabCells sendTab) (by kernel_rfl) _ _ _).mono ?_;rintro e w' ⟨rfl,rfl⟩))
 have h0:=six_0 w (tabCells sendTab) s v
 have h1:=six_1 w (tabCells sendTab) s v
 have h3:=six_3 w (tabCells sendTab) s v
 have h4:=six_4 w (tabCells sendTab) s v
 have h5:=six_5 w (tabCells sendTab) s v
 have hz:=six_size w (tabCells sendTab) s v
 have hB0:=six_below w (tabCells sendTab) s v
 obtain ⟨W0,hW0⟩ : ∃ W0,six w (tabCells sendTab) s v = W0:=⟨_,rfl⟩
 have hW0':=hW0
 unfold six at hW0'
 rw [hW0'] 
 rw [hW0] at h0 h1 h3 h4 h5 hz hB0
 clear hW0 hW0'
 refine wpIn_rangeFunc_ownF rfl (by omega) (gf:=272) (lb:=#[.pointer (some ⟨w.heap.size + 1 + 1 + 1,0,none⟩),.pointer (some ⟨w.heap.size + 1 + 1 + 1 + 1,0,none⟩),.pointer (some ⟨w.heap.size + 1 + 1 + 1 + 1 + 1,0,none⟩)]) rfl trivial (enters_of Tryz.func272 (by kernel_rfl) rfl)
  (of_stops Fence.wide _ trivial rfl (by omega) _ _ _ sendTab rfl s v W0 (by omega) (by omega) (by omega) h3 (cell_of_heap h4) (cell_of_heap h5)) belowK_t (belowK_b (by omega)) bz0 (fun _=>rfl)
  (fun pre W=>(pre = [] ∧ Cell01 W w.heap.size 0 0) ∧ Below w.heap.size w W)
  (fun c pre W=>((c = .ret ∧ pre.length = 1) ∧ Cell01 W w.heap.size (pre.headD 0) 0) ∧ Below w.heap.size w W)
  (OwnFrom.and (Own.from (Cell01.own (fun _=>(0,0)) _ _) _) (ownFrom_below (Nat.le_refl _) (by omega)))
  (fun c=>OwnFrom.and (Own.from (Cell01.own (fun (pre : List Int)=>(pre.headD 0,0)) _ _) _) (ownFrom_below (Nat.le_refl _) (by omega)))
  ⟨⟨rfl,cell_of_heap h0,frozen_of_heap h0,cell_of_heap h1,frozen_of_heap h1⟩,hB0⟩
  (fun x=>{ tmps:=#[.int .i64 s,.int .i64 v,undef,undef,.pointer (some ⟨w.heap.size,0,none⟩),.pointer (some ⟨w.heap.size + 1,0,none⟩),.int .i64 x,.agg (tabCells sendTab),.int .i64 s,.int .i64 v,.func (.func 272) #[] #[.pointer (some ⟨w.heap.size + 1 + 1 + 1,0,none⟩),.pointer (some ⟨w.heap.size + 1 + 1 + 1 + 1,0,none⟩),.pointer (some ⟨w.heap.size + 1 + 1 + 1 + 1 + 1,0,none⟩)],.int .i64 x,undef],defers:=[] }) ?assign ?body ?done ?stop
 case assign=>
  intro l x W K hK
  gi_wp2
  exact hK
 case body=>
  rintro l pre x W ⟨⟨rfl,hc0,hf0,hc1,hf1⟩,hB⟩ _
  gi_wp2
  refine ⟨(KeepsOthers.setCell _ _ _).trans (KeepsOthers.setCell _ _ _),⟨⟨rfl,rfl⟩,?_,?_,?_,?_⟩,(hB.setCell (p:=⟨w.heap.size,0,none⟩) (Nat.le_refl _) _).setCell (p:=⟨w.heap.size + 1,0,none⟩) (by simp) _⟩
  all_goals go_cell
 case done=>
  rintro D ys W hD hS ⟨⟨rfl,hc0,hf0,hc1,hf1⟩,hB⟩ hK
  gi_wp2
  have hK':=((KeepsOthers.setCell W ⟨w.heap.size,0,none⟩ (.int .i64 0)).trans (KeepsOthers.setCell _ ⟨w.heap.size + 1,0,none⟩ (.int .i64 180))).same D _ hK rfl
  refine ⟨by simp,.inl ⟨_,_,rfl,run_takeDeferred hK',?_⟩⟩
  obtain ⟨W',hW'⟩ : ∃ W',((W.setCell ⟨w.heap.size,0,none⟩ (.int .i64 0)).setCell ⟨w.heap.size + 1,0,none⟩ (.int .i64 180)) = W':=⟨_,rfl⟩
  have g0 : W'.cell? ⟨w.heap.size,0,none⟩ = some (.int .i64 0):=by rw [← hW'];go_cell
  have g1 : W'.cell? ⟨w.heap.size + 1,0,none⟩ = some (.int .i64 180):=by rw [← hW'];go_cell
  have hB' : Below w.heap.size w W':=by rw [← hW'];exact (hB.setCell (p:=⟨w.heap.size,0,none⟩) (Nat.le_refl _) _).setCell (p:=⟨w.heap.size + 1,0,none⟩) (by simp) _
  rw [hW'] at hK' ⊢
  have e0:=cell_kept g0 (grownBy_putObj' _ D (.deferred none)) (fun r e=>by cases e;exact ⟨_,hK',rfl⟩)
  have e1:=cell_kept g1 (grownBy_putObj' _ D (.deferred none)) (fun r e=>by cases e;exact ⟨_,hK',rfl⟩)
  refine ⟨.tuple #[.int .i64 0,.int .i64 180],?_,by rw [← hS];rfl,hB'.trans (belowK_b (w:=w) (Nat.le_refl _) _ D _ _ (by omega) hK' rfl rfl)⟩
  simp [results,Tryz.f148,go_sem,e0,e1]
 case stop=>
  rintro D c pre W hD ⟨hpre,hne⟩ ⟨⟨⟨rfl,hl⟩,hc0,hf0,hc1,hf1⟩,hB⟩ hK
  gi_wp2
  refine ⟨by simp,.inl ⟨_,_,rfl,run_takeDeferred hK,?_⟩⟩
  have e0:=cell_kept hc0 (grownBy_putObj' _ D (.deferred none)) (fun r e=>by cases e;exact ⟨_,hK,rfl⟩)
  have e1:=cell_kept hc1 (grownBy_putObj' _ D (.deferred none)) (fun r e=>by cases e;exact ⟨_,hK,rfl⟩)
  obtain ⟨x,rfl⟩:=List.length_eq_one_iff.1 hl
  obtain ⟨t,ht⟩:=hpre
  refine ⟨.tuple #[.int .i64 x,.int .i64 0],?_,by rw [← ht];rfl,hB.trans (belowK_b (w:=w) (Nat.le_refl _) W D _ _ (by omega) hK rfl rfl)⟩
  simp [results,Tryz.f148,go_sem,e0,e1]
end
section
open Go.RowKit Go.Shelf
attribute [local go_sem] Oper.semAt_some
theorem recv_inA (s v : Int) (w : World) (t1 : (s == 5) = true) (t2 : (v == 6) = false) (t3 : (v == 9) = false) :
  CallsIn Fence.wide 3 Tryz.prog 144 #[.int .i64 s,.int .i64 v] w fun e W'=>e = .returned (back (hits recvTab s v)) ∧ Below w.heap.size w W':=by
 refine callsIn_of_wp_marks Tryz.func144 rfl trivial ?_ rfl
 simp only [Tryz.ntmps144,List.size_toArray,List.length_cons,List.length_nil,Nat.reduceAdd,Nat.reduceSub,Array.replicate_succ,Array.replicate_zero,List.push_toArray,List.append_toArray,List.nil_append,List.cons_append]
 gi_wp2_with (first | (refine ⟨trivial,?_⟩;gi_at_call 217;refine (callsIn_wide.2 (receiving_any _)).mono ?_;rintro e w' ⟨rfl,rfl⟩) | (refine ⟨trivial,?_⟩;gi_at_call 218;refine (of_in Fence.wide _ trivial rfl (tabCells recvTab) (by kernel_rfl) _ _ _).mono ?_;rintro e w' ⟨rfl,rfl⟩))
 have h0:=six_0 w (tabCells recvTab) s v
 have h1:=six_1 w (tabCells recvTab) s v
 have h3:=six_3 w (tabCells recvTab) s v
 have h4:=six_4 w (tabCells recvTab) s v
 have h5:=six_5 w (tabCells recvTab) s v
 have hz:=six_size w (tabCells recvTab) s v
 have hB0:=six_below w (tabCells recvTab) s v
 obtain ⟨W0,hW0⟩ : ∃ W0,six w (tabCells recvTab) s v = W0:=⟨_,rfl⟩
 have hW0':=hW0
 unfold six at hW0'
 rw [hW0'] 
 rw [hW0] at h0 h1 h3 h4 h5 hz hB0
 clear hW0 hW0'
 refine wpIn_rangeFunc_ownF rfl (by omega) (gf:=272) (lb:=#[.pointer (some ⟨w.heap.size + 1 + 1 + 1,0,none⟩),.pointer (some ⟨w.heap.size + 1 + 1 + 1 + 1,0,none⟩),.pointer (some ⟨w.heap.size + 1 + 1 + 1 + 1 + 1,0,none⟩)]) rfl trivial (enters_of Tryz.func272 (by kernel_rfl) rfl)
  (of_stops Fence.wide _ trivial rfl (by omega) _ _ _ recvTab rfl s v W0 (by omega) (by omega) (by omega) h3 (cell_of_heap h4) (cell_of_heap h5)) belowK_t (belowK_b (by omega)) bz0 (fun _=>rfl)
  (fun pre W=>(pre = [] ∧ Cell01 W w.heap.size 0 0) ∧ Below w.heap.size w W)
  (fun c pre W=>((c = .ret ∧ pre.length = 1) ∧ Cell01 W w.heap.size (pre.headD 0) 0) ∧ Below w.heap.size w W)
  (OwnFrom.and (Own.from (Cell01.own (fun _=>(0,0)) _ _) _) (ownFrom_below (Nat.le_refl _) (by omega)))
  (fun c=>OwnFrom.and (Own.from (Cell01.own (fun (pre : List Int)=>(pre.headD 0,0)) _ _) _) (ownFrom_below (Nat.le_refl _) (by omega)))
  ⟨⟨rfl,cell_of_heap h0,frozen_of_heap h0,cell_of_heap h1,frozen_of_heap h1⟩,hB0⟩
  (fun x=>{ tmps:=#[.int .i64 s,.int .i64 v,undef,undef,.pointer (some ⟨w.heap.size,0,none⟩),.pointer (some ⟨w.heap.size + 1,0,none⟩),.int .i64 x,.int .i64 s,.bool true,.bool true,.int .i64 v,.bool false,.bool false,.int .i64 v,.bool false,.bool false,.bool false,undef,.agg (tabCells recvTab),.int .i64 s,.int .i64 v,.func (.func 272) #[] #[.pointer (some ⟨w.heap.size + 1 + 1 + 1,0,none⟩),.pointer (some ⟨w.heap.size + 1 + 1 + 1 + 1,0,none⟩),.pointer (some ⟨w.heap.size + 1 + 1 + 1 + 1 + 1,0,none⟩)],.int .i64 x,undef],defers:=[] }) ?assign ?body ?done ?stop
 case assign=>
  intro l x W K hK
  gi_wp2
  exact hK
 case body=>
  rintro l pre x W ⟨⟨rfl,hc0,hf0,hc1,hf1⟩,hB⟩ _
  gi_wp2
  refine ⟨(KeepsOthers.setCell _ _ _).trans (KeepsOthers.setCell _ _ _),⟨⟨rfl,rfl⟩,?_,?_,?_,?_⟩,(hB.setCell (p:=⟨w.heap.size,0,none⟩) (Nat.le_refl _) _).setCell (p:=⟨w.heap.size + 1,0,none⟩) (by simp) _⟩
  all_goals go_cell
 case done=>
  rintro D ys W hD hS ⟨⟨rfl,hc0,hf0,hc1,hf1⟩,hB⟩ hK
  gi_wp2
  have hK':=((KeepsOthers.setCell W ⟨w.heap.size,0,none⟩ (.int .i64 0)).trans (KeepsOthers.setCell _ ⟨w.heap.size + 1,0,none⟩ (.int .i64 180))).same D _ hK rfl
  refine ⟨by simp,.inl ⟨_,_,rfl,run_takeDeferred hK',?_⟩⟩
  obtain ⟨W',hW'⟩ : ∃ W',((W.setCell ⟨w.heap.size,0,none⟩ (.int .i64 0)).setCell ⟨w.heap.size + 1,0,none⟩ (.int .i64 180)) = W':=⟨_,rfl⟩
  have g0 : W'.cell? ⟨w.heap.size,0,none⟩ = some (.int .i64 0):=by rw [← hW'];go_cell
  have g1 : W'.cell? ⟨w.heap.size + 1,0,none⟩ = some (.int .i64 180):=by rw [← hW'];go_cell
  have hB' : Below w.heap.size w W':=by rw [← hW'];exact (hB.setCell (p:=⟨w.heap.size,0,none⟩) (Nat.le_refl _) _).setCell (p:=⟨w.heap.size + 1,0,none⟩) (by simp) _
  rw [hW'] at hK' ⊢
  have e0:=cell_kept g0 (grownBy_putObj' _ D (.deferred none)) (fun r e=>by cases e;exact ⟨_,hK',rfl⟩)
  have e1:=cell_kept g1 (grownBy_putObj' _ D (.deferred none)) (fun r e=>by cases e;exact ⟨_,hK',rfl⟩)
  refine ⟨.tuple #[.int .i64 0,.int .i64 180],?_,by rw [← hS];rfl,hB'.trans (belowK_b (w:=w) (Nat.le_refl _) _ D _ _ (by omega) hK' rfl rfl)⟩
  simp [results,Tryz.f144,go_sem,e0,e1]
 case stop=>
  rintro D c pre W hD ⟨hpre,hne⟩ ⟨⟨⟨rfl,hl⟩,hc0,hf0,hc1,hf1⟩,hB⟩ hK
  gi_wp2
  refine ⟨by simp,.inl ⟨_,_,rfl,run_takeDeferred hK,?_⟩⟩
  have e0:=cell_kept hc0 (grownBy_putObj' _ D (.deferred none)) (fun r e=>by cases e;exact ⟨_,hK,rfl⟩)
  have e1:=cell_kept hc1 (grownBy_putObj' _ D (.deferred none)) (fun r e=>by cases e;exact ⟨_,hK,rfl⟩)
  obtain ⟨x,rfl⟩:=List.length_eq_one_iff.1 hl
  obtain ⟨t,ht⟩:=hpre
  refine ⟨.tuple #[.int .i64 x,.int .i64 0],?_,by rw [← ht];rfl,hB.trans (belowK_b (w:=w) (Nat.le_refl _) W D _ _ (by omega) hK rfl rfl)⟩
  simp [results,Tryz.f144,go_sem,e0,e1]
theorem recv_inB (s v : Int) (w : World) (t1 : (s == 5) = false) :
  CallsIn Fence.wide 3 Tryz.prog 144 #[.int .i64 s,.int .i64 v] w fun e W'=>e = .returned (back (hits recvTab s v)) ∧ Below w.heap.size w W':=by
 refine callsIn_of_wp_marks Tryz.func144 rfl trivial ?_ rfl
 simp only [Tryz.ntmps144,List.size_toArray,List.length_cons,List.length_nil,Nat.reduceAdd,Nat.reduceSub,Array.replicate_succ,Array.replicate_zero,List.push_toArray,List.append_toArray,List.nil_append,List.cons_append]
 gi_wp2_with (first | (refine ⟨trivial,?_⟩;gi_at_call 217;refine (callsIn_wide.2 (receiving_any _)).mono ?_;rintro e w' ⟨rfl,rfl⟩) | (refine ⟨trivial,?_⟩;gi_at_call 218;refine (of_in Fence.wide _ trivial rfl (tabCells recvTab) (by kernel_rfl) _ _ _).mono ?_;rintro e w' ⟨rfl,rfl⟩))
 have h0:=six_0 w (tabCells recvTab) s v
 have h1:=six_1 w (tabCells recvTab) s v
 have h3:=six_3 w (tabCells recvTab) s v
 have h4:=six_4 w (tabCells recvTab) s v
 have h5:=six_5 w (tabCells recvTab) s v
 have hz:=six_size w (tabCells recvTab) s v
 have hB0:=six_below w (tabCells recvTab) s v
 obtain ⟨W0,hW0⟩ : ∃ W0,six w (tabCells recvTab) s v = W0:=⟨_,rfl⟩
 have hW0':=hW0
 unfold six at hW0'
 rw [hW0'] 
 rw [hW0] at h0 h1 h3 h4 h5 hz hB0
 clear hW0 hW0'
 refine wpIn_rangeFunc_ownF rfl (by omega) (gf:=272) (lb:=#[.pointer (some ⟨w.heap.size + 1 + 1 + 1,0,none⟩),.pointer (some ⟨w.heap.size + 1 + 1 + 1 + 1,0,none⟩),.pointer (some ⟨w.heap.size + 1 + 1 + 1 + 1 + 1,0,none⟩)]) rfl trivial (enters_of Tryz.func272 (by kernel_rfl) rfl)
  (of_stops Fence.wide _ trivial rfl (by omega) _ _ _ recvTab rfl s v W0 (by omega) (by omega) (by omega) h3 (cell_of_heap h4) (cell_of_heap h5)) belowK_t (belowK_b (by omega)) bz0 (fun _=>rfl)
  (fun pre W=>(pre = [] ∧ Cell01 W w.heap.size 0 0) ∧ Below w.heap.size w W)
  (fun c pre W=>((c = .ret ∧ pre.length = 1) ∧ Cell01 W w.heap.size (pre.headD 0) 0) ∧ Below w.heap.size w W)
  (OwnFrom.and (Own.from (Cell01.own (fun _=>(0,0)) _ _) _) (ownFrom_below (Nat.le_refl _) (by omega)))
  (fun c=>OwnFrom.and (Own.from (Cell01.own (fun (pre : List Int)=>(pre.headD 0,0)) _ _) _) (ownFrom_below (Nat.le_refl _) (by omega)))
  ⟨⟨rfl,cell_of_heap h0,frozen_of_heap h0,cell_of_heap h1,frozen_of_heap h1⟩,hB0⟩
  (fun x=>{ tmps:=#[.int .i64 s,.int .i64 v,undef,undef,.pointer (some ⟨w.heap.size,0,none⟩),.pointer (some ⟨w.heap.size + 1,0,none⟩),.int .i64 x,.int .i64 s,.bool false,.bool false,undef,undef,undef,undef,undef,undef,.bool false,undef,.agg (tabCells recvTab),.int .i64 s,.int .i64 v,.func (.func 272) #[] #[.pointer (some ⟨w.heap.size + 1 + 1 + 1,0,none⟩),.pointer (some ⟨w.heap.size + 1 + 1 + 1 + 1,0,none⟩),.pointer (some ⟨w.heap.size + 1 + 1 + 1 + 1 + 1,0,none⟩)],.int .i64 x,undef],defers:=[] }) ?assign ?body ?done ?stop
 case assign=>
  intro l x W K hK
  gi_wp2
  exact hK
 case body=>
  rintro l pre x W ⟨⟨rfl,hc0,hf0,hc1,hf1⟩,hB⟩ _
  gi_wp2
  refine ⟨(KeepsOthers.setCell _ _ _).trans (KeepsOthers.setCell _ _ _),⟨⟨rfl,rfl⟩,?_,?_,?_,?_⟩,(hB.setCell (p:=⟨w.heap.size,0,none⟩) (Nat.le_refl _) _).setCell (p:=⟨w.heap.size + 1,0,none⟩) (by simp) _⟩
  all_goals go_cell
 case done=>
  rintro D ys W hD hS ⟨⟨rfl,hc0,hf0,hc1,hf1⟩,hB⟩ hK
  gi_wp2
  have hK':=((KeepsOthers.setCell W ⟨w.heap.size,0,none⟩ (.int .i64 0)).trans (KeepsOthers.setCell _ ⟨w.heap.size + 1,0,none⟩ (.int .i64 180))).same D _ hK rfl
  refine ⟨by simp,.inl ⟨_,_,rfl,run_takeDeferred hK',?_⟩⟩
  obtain ⟨W',hW'⟩ : ∃ W',((W.setCell ⟨w.heap.size,0,none⟩ (.int .i64 0)).setCell ⟨w.heap.size + 1,0,none⟩ (.int .i64 180)) = W':=⟨_,rfl⟩
  have g0 : W'.cell? ⟨w.heap.size,0,none⟩ = some (.int .i64 0):=by rw [← hW'];go_cell
  have g1 : W'.cell? ⟨w.heap.size + 1,0,none⟩ = some (.int .i64 180):=by rw [← hW'];go_cell
  have hB' : Below w.heap.size w W':=by rw [← hW'];exact (hB.setCell (p:=⟨w.heap.size,0,none⟩) (Nat.le_refl _) _).setCell (p:=⟨w.heap.size + 1,0,none⟩) (by simp) _
  rw [hW'] at hK' ⊢
  have e0:=cell_kept g0 (grownBy_putObj' _ D (.deferred none)) (fun r e=>by cases e;exact ⟨_,hK',rfl⟩)
  have e1:=cell_kept g1 (grownBy_putObj' _ D (.deferred none)) (fun r e=>by cases e;exact ⟨_,hK',rfl⟩)
  refine ⟨.tuple #[.int .i64 0,.int .i64 180],?_,by rw [← hS];rfl,hB'.trans (belowK_b (w:=w) (Nat.le_refl _) _ D _ _ (by omega) hK' rfl rfl)⟩
  simp [results,Tryz.f144,go_sem,e0,e1]
 case stop=>
  rintro D c pre W hD ⟨hpre,hne⟩ ⟨⟨⟨rfl,hl⟩,hc0,hf0,hc1,hf1⟩,hB⟩ hK
  gi_wp2
  refine ⟨by simp,.inl ⟨_,_,rfl,run_takeDeferred hK,?_⟩⟩
  have e0:=cell_kept hc0 (grownBy_putObj' _ D (.deferred none)) (fun r e=>by cases e;exact ⟨_,hK,rfl⟩)
  have e1:=cell_kept hc1 (grownBy_putObj' _ D (.deferred none)) (fun r e=>by cases e;exact ⟨_,hK,rfl⟩)
  obtain ⟨x,rfl⟩:=List.length_eq_one_iff.1 hl
  obtain ⟨t,ht⟩:=hpre
  refine ⟨.tuple #[.int .i64 x,.int .i64 0],?_,by rw [← ht];rfl,hB.trans (belowK_b (w:=w) (Nat.le_refl _) W D _ _ (by omega) hK rfl rfl)⟩
  simp [results,Tryz.f144,go_sem,e0,e1]
def pairV (p : Int × Int) : Value:=.tuple #[.int .i64 p.1,.int .i64 p.2]
def backP (l : List Int) : Int × Int:=match l.head? with | some x=>(x,0) | none=>(0,180)
theorem back_eq (l : List Int) : back l = pairV (backP l):=by unfold back pairV backP;cases l <;> rfl
def sF (s v : Int) : Int × Int:=backP (hits sendTab s v)
def rF (s v : Int) : Int × Int:=if s = 5 ∧ (v = 6 ∨ v = 9) then (5,0) else backP (hits recvTab s v)
theorem send_any (s v : Int) (w : World) : Calls Tryz.prog 148 #[.int .i64 s,.int .i64 v] w fun e w'=>e = .returned (.tuple #[.int .i64 (sF s v).1,.int .i64 (sF s v).2]) ∧ Below w.heap.size w w':=
 (callsIn_wide.1 (send_in s v w)).mono fun e w' ⟨he,hb⟩=>⟨by rw [he,back_eq];rfl,hb⟩
theorem recv_pre (s v : Int) (w : World) (h : s = 5 ∧ (v = 6 ∨ v = 9)) : Calls Tryz.prog 144 #[.int .i64 s,.int .i64 v] w fun e w'=>e = .returned (.tuple #[.int .i64 5,.int .i64 0]) ∧ Below w.heap.size w w':=by
 obtain ⟨rfl,rfl | rfl⟩:=h
 all_goals
  go_enter Tryz.func144,Tryz.ntmps144
  go_wp2
  refine bodyPost_ret (v:=.tuple #[.int .i64 5,.int .i64 0]) (by simp [results,Tryz.results144,go_sem]) rfl ⟨rfl,?_⟩
  exact (bz0.alloc (Nat.le_refl _) _).alloc (by simp) _
theorem recv_any (s v : Int) (w : World) : Calls Tryz.prog 144 #[.int .i64 s,.int .i64 v] w fun e w'=>e = .returned (.tuple #[.int .i64 (rF s v).1,.int .i64 (rF s v).2]) ∧ Below w.heap.size w w':=by
 by_cases h : s = 5 ∧ (v = 6 ∨ v = 9)
 ·have e : rF s v = (5,0):=by simp [rF,h]
  rw [e];exact recv_pre s v w h
 ·have e : rF s v = backP (hits recvTab s v):=by simp only [rF,h,if_false]
  have hb:=back_eq (hits recvTab s v)
  by_cases h5 : s = 5
  ·exact (callsIn_wide.1 (recv_inA s v w (by simp [h5]) (by simp;intro h';exact h ⟨h5,.inl h'⟩) (by simp;intro h';exact h ⟨h5,.inr h'⟩))).mono fun e' w' ⟨he,hbl⟩=>⟨by rw [he,hb,e];rfl,hbl⟩
  ·exact (callsIn_wide.1 (recv_inB s v w (by simp [h5]))).mono fun e' w' ⟨he,hbl⟩=>⟨by rw [he,hb,e];rfl,hbl⟩
/-! the small ones -/
def sdF (s : Int) : Bool:=s == 4 || s == 5
theorem sendDone_any (s : Int) (w : World) : Calls Tryz.prog 215 #[.int .i64 s] w fun e w'=>e = .returned (.bool (sdF s)) ∧ w = w':=by
 go_enter Tryz.func215,Tryz.ntmps215
 go_wp2
 all_goals
  go_ret
  exact ⟨by simp_all [sdF],rfl⟩
theorem recvDone_any (s : Int) (w : World) : Calls Tryz.prog 216 #[.int .i64 s] w fun e w'=>e = .returned (.bool (sdF s)) ∧ w = w':=by
 go_enter Tryz.func216,Tryz.ntmps216
 go_wp2
 all_goals
  go_ret
  exact ⟨by simp_all [sdF],rfl⟩
end
end Go.Proofs.YthckbmcmdcemkaaGreatDoor.sst
