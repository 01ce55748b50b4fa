/- Law 20: the table of the parameters' descriptions. -/
import Derived.Test.YtddfikijehmoiaaDoorA
import Derived.Laws.Rows
import Derived.Deep.WholeRow
namespace Go.Proofs.YtddfikijehmoiaaDoor
open Go.RowKit
/-- a description: the closure's number, the bounds, whether it is a limit -/
def fd (x : Nat × Int × Int × Bool) : Array Value := #[.func (.func x.1) #[] #[], .int .i64 x.2.1, .int .i64 x.2.2.1, .bool x.2.2.2]
def fTab : List (Nat × Int × Int × Bool) := [(32, 0, 1073741824, true), (33, 0, 1073741824, true), (34, 0, 64, true), (35, 0, 64, true), (36, 0, 20, false), (37, 50, 100000, false)]
def fCells : Array Value := (fTab.flatMap fun x => (fd x).toList).toArray
def fZero : Array Value := ((List.replicate 6 [Value.nilFunc, .int .i64 0, .int .i64 0, .bool false]).flatMap id).toArray
theorem zero71 : (∀ w, (zeroValue 71).run Tryd.prog w = .ok (.agg fZero) w) ∧ (Tryd.prog.info? 71).map (·.size) = some 24 := zero_of_info (by kernel_rfl)
set_option maxRecDepth 100000 in
set_option maxHeartbeats 1000000 in
theorem fields_any (w : World) :
    Calls Tryd.prog 26 #[] w fun e w' => e = .returned (.agg fCells) ∧ w' = w.alloc (.cells fCells 71) := by
  go_enter Tryd.func26, Tryd.ntmps26
  have hz := zero71.1
  have hsz : (Tryd.prog.info? 71).map (·.size) = some fCells.size := by kernel_rfl
  have hsz2 : fZero.size = fCells.size := by kernel_rfl
  have h1c : fCells.all (·.oneCell') = true := by kernel_rfl
  have hnew := heap_alloc_new w (.cells fZero 71)
  have H1 := Lib.hid hsz
  have H2 := Lib.hid hsz2
  have H3 := Lib.hid h1c
  have H4 := Lib.hid hnew
  clear hsz hsz2 h1c hnew
  go_wp2_with (first | ((with_reducible refine wpList_build rfl 71 _ rfl (by kernel_rfl) ?_); refine (congrArg (fun X => wpList _ _ _ _ (Act.put _ _ (.agg X)) _) (show _ = fCells from by kernel_rfl)).mpr ?_) | ((refine wpList_store_row rfl 71 _ _ rfl w.heap.size _ rfl rfl 71 _ H4.out H1.out H2.out H3.out ?_); rw [World.setRow_alloc_new]))
  refine bodyPost_ret (v := .agg fCells) (results_cell_row rfl _ _ _ 71 fCells (0,0) _ rfl (heap_alloc_new w _) Tryd.underlying71 rfl H1.out) rfl ⟨rfl, rfl⟩
end Go.Proofs.YtddfikijehmoiaaDoor
