import Derived.Test.YtapddinlfkdkeaaB
import Derived.Deep.WholeRow
namespace Go.Proofs
open Go.RowKit Go.Shelf
attribute [local go_sem] Oper.semAt_some

theorem of_stops (F : Fence) (n : Nat) (h22 : F.fn 22) (hro : F.round = none) (hn : 1 ≤ n) (Bt Bs Bv : Nat) (tab : List (Int × Int × Int)) (ht : tab.length = 13) (s v : Int) (w : World)
    (ht0 : Bt < w.heap.size) (hs0 : Bs < w.heap.size) (hv0 : Bv < w.heap.size) (hBt : w.heap[Bt]? = some (.cells (tabCells tab) 40 (0, 0))) (hBs : w.cell? ⟨Bs, 0, none⟩ = some (.int .i64 s)) (hBv : w.cell? ⟨Bv, 0, none⟩ = some (.int .i64 v)) :
    SeqStopsK F n Try.prog 22 #[.pointer (some ⟨Bt, 0, none⟩), .pointer (some ⟨Bs, 0, none⟩), .pointer (some ⟨Bv, 0, none⟩)] (fun x : Int => #[Value.int .i64 x]) (Below w.heap.size) (fun ys => ys = hits tab s v) (fun pre => pre <+: hits tab s v ∧ pre ≠ []) 13 w := fun l J Jx W hW hA _ hY h0 => by
  refine (of1_in F n h22 hro hn l Bt Bs Bv w.heap.size tab ht s v ht0 hs0 hv0 J Jx hA hY W hW.size ?_ ?_ ?_ h0)
  · exact (hW.block Bt ht0).trans hBt
  · exact (hW.cell (p := ⟨Bs, 0, none⟩) hs0).trans hBs
  · exact (hW.cell (p := ⟨Bv, 0, none⟩) hv0).trans hBv

def sendTab : List (Int × Int × Int) := [(0,1,1),(0,2,2),(0,4,3),(1,1,1),(1,2,2),(1,4,3),(2,3,4),(2,4,3),(3,5,5),(3,3,3),(4,4,4),(5,4,5),(5,4,5)]

def recvTab : List (Int × Int × Int) := [(0,6,1),(0,9,3),(1,6,1),(1,7,2),(1,9,3),(2,6,2),(2,8,4),(2,9,2),(3,6,3),(3,9,3),(3,10,5),(4,6,4),(4,9,4)]

theorem of_in (F : Fence) (n : Nat) (h20 : F.fn 20) (hro : F.round = none) (cs : Array Value) (hcs : cs.size = 39) (s v : Int) (w : World) :
    CallsIn F n Try.prog 20 #[.agg cs, .int .i64 s, .int .i64 v] w fun e w' => e = .returned (.func (.func 22) #[] #[.pointer (some ⟨w.heap.size, 0, none⟩), .pointer (some ⟨w.heap.size + 1, 0, none⟩), .pointer (some ⟨w.heap.size + 1 + 1, 0, none⟩)]) ∧
      w' = ((w.alloc (.cells cs 40)).alloc (.cells #[.int .i64 s] 3)).alloc (.cells #[.int .i64 v] 3) := by
  refine callsIn_of_wp Try.func20 rfl h20 ?_ hro
  simp only [Try.ntmps20, List.size_toArray, List.length_cons, List.length_nil, Nat.reduceAdd, Nat.reduceSub, Array.replicate_succ, Array.replicate_zero, List.push_toArray, List.append_toArray, List.nil_append, List.cons_append]
  gi_wp2
  go_ret
  exact ⟨rfl, rfl⟩

theorem zero40 : (∀ w, (zeroValue 40).run Try.prog w = .ok (.agg (tabCells (List.replicate 13 (0,0,0)))) w) ∧ (Try.prog.info? 40).map (·.size) = some 39 := zero_of_info (by kernel_rfl)
set_option maxRecDepth 100000 in
set_option maxHeartbeats 1000000 in
theorem sending_any (w : World) :
    Calls Try.prog 19 #[] w fun e w' => e = .returned (.agg (tabCells sendTab)) ∧ w' = w.alloc (.cells (tabCells sendTab) 40) := by
  go_enter Try.func19, Try.ntmps19
  have hz := zero40.1
  have hsz : (Try.prog.info? 40).map (·.size) = some (tabCells sendTab).size := by kernel_rfl
  have hsz2 : (tabCells (List.replicate 13 (0,0,0))).size = (tabCells sendTab).size := by kernel_rfl
  have h1c : (tabCells sendTab).all (·.oneCell') = true := by kernel_rfl
  have hnew := heap_alloc_new w (.cells (tabCells (List.replicate 13 (0,0,0))) 40)
  have H1 := Lib.hid hsz
  have H2 := Lib.hid hsz2
  have H3 := Lib.hid h1c
  have H4 := Lib.hid hnew
  clear hsz hsz2 h1c hnew
  go_wp2_with (first | ((with_reducible refine wpList_build rfl 40 _ rfl (by kernel_rfl) ?_); refine (congrArg (fun X => wpList _ _ _ _ (Act.put _ _ (.agg X)) _) (show _ = tabCells sendTab from by kernel_rfl)).mpr ?_) | ((refine wpList_store_row rfl 40 _ _ rfl w.heap.size _ rfl rfl 40 _ H4.out H1.out H2.out H3.out ?_); rw [World.setRow_alloc_new]))
  refine bodyPost_ret (v := .agg (tabCells sendTab)) (results_cell_row rfl _ _ _ 40 (tabCells sendTab) (0,0) _ rfl (heap_alloc_new w _) Try.underlying40 rfl H1.out) rfl ⟨rfl, rfl⟩
set_option maxRecDepth 100000 in
set_option maxHeartbeats 1000000 in
theorem receiving_any (w : World) :
    Calls Try.prog 21 #[] w fun e w' => e = .returned (.agg (tabCells recvTab)) ∧ w' = w.alloc (.cells (tabCells recvTab) 40) := by
  go_enter Try.func21, Try.ntmps21
  have hz := zero40.1
  have hsz : (Try.prog.info? 40).map (·.size) = some (tabCells recvTab).size := by kernel_rfl
  have hsz2 : (tabCells (List.replicate 13 (0,0,0))).size = (tabCells recvTab).size := by kernel_rfl
  have h1c : (tabCells recvTab).all (·.oneCell') = true := by kernel_rfl
  have hnew := heap_alloc_new w (.cells (tabCells (List.replicate 13 (0,0,0))) 40)
  have H1 := Lib.hid hsz
  have H2 := Lib.hid hsz2
  have H3 := Lib.hid h1c
  have H4 := Lib.hid hnew
  clear hsz hsz2 h1c hnew
  go_wp2_with (first | ((with_reducible refine wpList_build rfl 40 _ rfl (by kernel_rfl) ?_); refine (congrArg (fun X => wpList _ _ _ _ (Act.put _ _ (.agg X)) _) (show _ = tabCells recvTab from by kernel_rfl)).mpr ?_) | ((refine wpList_store_row rfl 40 _ _ rfl w.heap.size _ rfl rfl 40 _ H4.out H1.out H2.out H3.out ?_); rw [World.setRow_alloc_new]))
  refine bodyPost_ret (v := .agg (tabCells recvTab)) (results_cell_row rfl _ _ _ 40 (tabCells recvTab) (0,0) _ rfl (heap_alloc_new w _) Try.underlying40 rfl H1.out) rfl ⟨rfl, rfl⟩
end Go.Proofs
