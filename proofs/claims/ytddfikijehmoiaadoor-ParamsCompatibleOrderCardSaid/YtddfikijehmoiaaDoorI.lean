/- Law 20: Valid, errno, Encode. -/
import Derived.Test.YtddfikijehmoiaaDoorH
import Derived.Test.YtddfikijehmoiaaDoorG
import Derived.Test.YtddfikijehmoiaaDoorP
namespace Go.Proofs.YtddfikijehmoiaaDoor
open Go.RowKit Go.Shelf
attribute [local go_sem] Oper.semAt_some
theorem chk_yes {p : Pm} (h : vldP p = true) (a : Addr) : chkV p a = .nilIface := by unfold chkV; rw [if_pos h]
theorem chk_no {p : Pm} (h : vldP p = false) (a : Addr) : chkV p a = .iface 98 (.pointer (some a)) := by unfold chkV; rw [if_neg (by simp [h])]
theorem valid_any (p : Pm) (a : Addr) (w : World) (h0 : w.cell? ⟨0, 0, none⟩ = some (.iface 98 (.pointer (some a)))) :
    Calls Tryd.prog 13 #[.agg p.cells] w fun e w' => e = .returned (.bool (vldP p)) ∧ Below w.heap.size w w' := by
  have h00 : 0 < w.heap.size := World.block_lt_of_cell? _ _ h0
  have CK := Lib.hid (check_any p a (w.alloc (.cells p.cells 23)) (cell_alloc_l _ h0))
  have HB : Hid (Below w.heap.size w (w.alloc (.cells p.cells 23))) := Lib.hid ((Below.refl _ w).alloc (Nat.le_refl _) _)
  have hb1 := fun w' (h : Below (w.alloc (.cells p.cells 23)).heap.size (w.alloc (.cells p.cells 23)) w') => HB.out.trans (h.mono (by simp))
  by_cases h : vldP p = true
  · rw [chk_yes h] at CK
    rw [h]
    clear h h0
    unfold Pm.cells at *
    go_enter Tryd.func13, Tryd.ntmps13
    go_wp2_with (go_at_call 17; refine CK.out.mono ?_; rintro e w' ⟨rfl, hb⟩)
    go_ret
    exact ⟨rfl, hb1 _ hb⟩
  · have h' : vldP p = false := by simpa using h
    rw [chk_no h'] at CK
    rw [h']
    clear h h' h0
    unfold Pm.cells at *
    go_enter Tryd.func13, Tryd.ntmps13
    go_wp2_with (go_at_call 17; refine CK.out.mono ?_; rintro e w' ⟨rfl, hb⟩)
    go_ret
    exact ⟨rfl, hb1 _ hb⟩
theorem errno_nil (a : Addr) (w : World) (h0 : w.cell? ⟨0, 0, none⟩ = some (.iface 98 (.pointer (some a)))) :
    Calls Tryd.prog 18 #[.nilIface] w fun e w' => e = .returned (.int .i64 0) ∧ w' = w := by
  go_enter Tryd.func18, Tryd.ntmps18
  go_wp2_with (go_at_call 24; refine (is_nil a w).mono ?_; rintro e w' ⟨rfl, rfl⟩)
  go_ret
  exact ⟨rfl, rfl⟩
theorem errno_err (a : Addr) (w : World) (h0 : w.cell? ⟨0, 0, none⟩ = some (.iface 98 (.pointer (some a)))) :
    Calls Tryd.prog 18 #[.iface 98 (.pointer (some a))] w fun e w' => e = .returned (.int .i64 200) ∧ w' = w := by
  go_enter Tryd.func18, Tryd.ntmps18
  go_wp2_with (go_at_call 24; refine (is_same a w).mono ?_; rintro e w' ⟨rfl, rfl⟩)
  go_ret
  exact ⟨rfl, rfl⟩
end Go.Proofs.YtddfikijehmoiaaDoor
