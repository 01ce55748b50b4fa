/- Law 13: Valid at an ACK frame. -/
import Derived.Test.YtafkndhnbnpahaaGreatR
import Derived.Defers
import Derived.Recover
namespace Go.Proofs.YtafkndhnbnpahaaGreat
open Go.RowKit
theorem catch_idle (w : World) :
    CallsD Tryz.prog 77 #[] .returning w fun e u' w' => e = .returned (.tuple #[]) ∧ u' = .returning ∧ w' = w := by
  refine callsD_of_wpS Tryz.func77 rfl fun c₀ cs hu => ?_
  apply wpS_seq
  apply wpS_region
  simp [wpOpsS, go_sem, recoverD, hu, Tryz.ntmps77, Exit.thenS]
  apply wpS_seq
  apply wpS_region
  simp [wpOpsS, go_sem, Exit.thenS]
  refine wpS_cond (t := false) (by simp [Act.eval, Array.replicate]) ?_
  simp only [Bool.false_eq_true, if_false]
  refine wpS_of_wp (wp_skip ?_)
  cases c₀
  simp_all [bodyPostS, results, Tryz.results77]
set_option maxRecDepth 100000 in
set_option maxHeartbeats 2000000 in
theorem vclos_any (b : Nat) (d : Int) (rv : Value) (n : Nat) (F T : Nat → Int) (w : World) (h0 : 0 ≤ d) (h1 : d ≤ 4611686018427387903) (hR : RgOk n F T) (hS : SpansAt w rv n F T) (hb : w.heap[b]? = some (.cells (ackE d rv) 41 (0, 0))) :
    Calls Tryz.prog 64 #[.pointer (some ⟨b, 0, none⟩)] w fun e w' => e = .returned (.tuple #[]) ∧ Below w.heap.size w w' := by
  have E := Lib.hid (encode_ack d rv n F T w h0 h1 hR hS)
  have HB := Lib.hid hb
  clear hR hS hb
  unfold ackE at *
  go_enter Tryz.func64, Tryz.ntmps64
  go_wp2_with (first | (refine wpList_load_row rfl 41 _ rfl b rfl 41 _ (0, 0) _ HB.out Tryz.underlying41 rfl size41 ?_) | (go_at_call 65; refine E.out.mono ?_; rintro e w' ⟨s, rfl, hb⟩))
  go_end0
  exact ⟨rfl, hb⟩
set_option maxRecDepth 100000 in
set_option maxHeartbeats 2000000 in
theorem guard_any (b : Nat) (w : World) (hc : Calls Tryz.prog 64 #[.pointer (some ⟨b, 0, none⟩)] w fun e w' => e = .returned (.tuple #[]) ∧ Below w.heap.size w w') :
    Calls Tryz.prog 63 #[.func (.func 64) #[] #[.pointer (some ⟨b, 0, none⟩)]] w fun e w' => e = .returned (.bool true) ∧ Below w.heap.size w w' := by
  have E := Lib.hid hc
  clear hc
  go_enter_defers Tryz.func63, Tryz.ntmps63
  go_wp2_with (go_at_call 64; refine E.out.mono ?_; rintro e w' ⟨rfl, hb⟩)
  refine leaves_cons (f := 77) (args := #[]) (by simp) (by simp [go_sem]) ?_
  refine (catch_idle _).mono ?_
  rintro e u' w'' ⟨rfl, rfl, rfl⟩
  exact ⟨_, results_tmp rfl _ _ _, rfl, hb⟩
set_option maxRecDepth 100000 in
set_option maxHeartbeats 2000000 in
theorem valid_ack (d : Int) (rv : Value) (n : Nat) (F T : Nat → Int) (w : World) (h0 : 0 ≤ d) (h1 : d ≤ 4611686018427387903) (hR : RgOk n F T) (hS : SpansAt w rv n F T) :
    Calls Tryz.prog 40 #[.agg (ackE d rv)] w fun e w' => e = .returned (.bool true) ∧ Below w.heap.size w w' := by
  have X := Lib.hid (box1 w (.cells (ackE d rv) 41))
  have E := Lib.hid (guard_any w.heap.size _ (vclos_any w.heap.size d rv n F T _ h0 h1 hR (hS.below X.out.2.1) X.out.1))
  have hmf : ∀ (fn : Fn) (first cap : Array Value) (w : World), (Instr.makeFunc fn first cap).run Tryz.prog w = .ok (.func fn first cap) w := fun _ _ _ _ => rfl
  clear hR hS
  unfold ackE at *
  go_enter Tryz.func40, Tryz.ntmps40
  go_wp2_with (go_at_call 63; refine E.out.mono ?_; rintro e w' ⟨rfl, hb⟩)
  go_ret
  exact ⟨rfl, btrans X.out.2.1 hb⟩
end Go.Proofs.YtafkndhnbnpahaaGreat
