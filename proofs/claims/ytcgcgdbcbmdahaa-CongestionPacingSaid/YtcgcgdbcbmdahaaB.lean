import Derived.Test.YtcgcgdbcbmdahaaA
import Derived.Test.YtcgcgdbcbmdahaaM
namespace Go.Proofs.Ytcgcgdbcbmdahaa
open Go.RowKit
def F31 (b : Nat) : Value := .func (.func 31) #[.pointer (some ⟨b, 0, none⟩)] #[]
def F32 (b : Nat) : Value := .func (.func 32) #[.pointer (some ⟨b, 0, none⟩)] #[]
/-- the world behind the map: the controller as it was, and what the map answers -/
def Mapped (b r : Nat) (d : Ctl) (w1 W2 : World) : Prop := Blk b d.enc 50 w1 W2 ∧ (Instr.lookup 53 (.map (some r)) (.bool true) false).run Try.prog W2.drew = .ok (F31 b) W2.drew ∧ (Instr.lookup 53 (.map (some r)) (.bool false) false).run Try.prog W2.drew = .ok (F32 b) W2.drew
theorem mapped1 (b : Nat) (d : Ctl) (w1 : World) (h : At w1 b d) : ∃ W2, (w1.alloc (Obj.map #[⟨.bool true, .func (.func 31) #[.pointer (some ⟨b, 0, none⟩)] #[], 0⟩, ⟨.bool false, .func (.func 32) #[.pointer (some ⟨b, 0, none⟩)] #[], 1⟩] 2)).drew = W2 ∧ Mapped b w1.heap.size d w1 W2 :=
  ⟨_, rfl, ((Blk.start h).alloc _).drew, run_look_bool _ _ 2 true 0 _ _ (last_drew w1 _) rfl, run_look_bool _ _ 2 false 1 _ _ (last_drew w1 _) rfl⟩
theorem mapped2 (b : Nat) (d : Ctl) (w1 : World) (h : At w1 b d) : ∃ W2, (w1.alloc (Obj.map #[⟨.bool false, .func (.func 32) #[.pointer (some ⟨b, 0, none⟩)] #[], 0⟩, ⟨.bool true, .func (.func 31) #[.pointer (some ⟨b, 0, none⟩)] #[], 1⟩] 2)).drew = W2 ∧ Mapped b w1.heap.size d w1 W2 :=
  ⟨_, rfl, ((Blk.start h).alloc _).drew, run_look_bool _ _ 2 true 1 _ _ (last_drew w1 _) rfl, run_look_bool _ _ 2 false 0 _ _ (last_drew w1 _) rfl⟩
def ackedF (c : Ctl) (sent n : Int) : Ctl := if oldF (discF c n) sent then discF c n else if (discF c n).size < (discF c n).thr then growF (discF c n) (bytesF n) else growF (discF c n) (avoidBy (discF c n) (bytesF n))
set_option maxHeartbeats 8000000 in
theorem acked_any (b : Nat) (c : Ctl) (now sent n : Int) (w : World) (hA : At w b c) (h1 : 0 ≤ c.flight) (h2 : c.flight ≤ 1125899906842624) (h3 : 1024 ≤ c.size) (h4 : c.size ≤ 65536) :
    Calls Try.prog 19 #[.pointer (some ⟨b, 0, none⟩), .int .i64 now, .int .i64 sent, .int .i64 n] w fun e w' => e = .returned (.tuple #[]) ∧ To b (ackedF c sent n) w w' := by
  have D := Lib.hid (disc_any b c n w hA h1 h2)
  have OL := Lib.hid (fun w (h : At w b (discF c n)) => old_any b (discF c n) sent w h)
  have hb := bytesF_range n
  obtain ⟨hb1, hb2⟩ := hb
  have EL : Hid (ackedF c sent n = if oldF (discF c n) sent then discF c n else if (discF c n).size < (discF c n).thr then growF (discF c n) (bytesF n) else growF (discF c n) (avoidBy (discF c n) (bytesF n))) := Lib.hid rfl
  have hd1 : 1024 ≤ (discF c n).size := h3
  have hd2 : (discF c n).size ≤ 65536 := h4
  generalize discF c n = d at *
  obtain ⟨o, ho⟩ : ∃ o, oldF d sent = o := ⟨_, rfl⟩
  rw [ho] at OL EL
  clear ho
  cases o
  · have hmm := @run_makeMap Try.prog
    have I1 : ∀ (W : World) (v : Value), (Instr.mapUpdate 53 (.map (some W.heap.size)) (.bool true) v).run Try.prog ((W.alloc (.map #[] 0)).drew) = .ok () ((W.alloc (.map #[⟨.bool true, v, 0⟩] 1)).drew) := fun W v => run_insert_bool W #[] 0 true v rfl
    have I2 : ∀ (W : World) (v : Value), (Instr.mapUpdate 53 (.map (some W.heap.size)) (.bool false) v).run Try.prog ((W.alloc (.map #[] 0)).drew) = .ok () ((W.alloc (.map #[⟨.bool false, v, 0⟩] 1)).drew) := fun W v => run_insert_bool W #[] 0 false v rfl
    have I3 : ∀ (W : World) (u v : Value), (Instr.mapUpdate 53 (.map (some W.heap.size)) (.bool false) v).run Try.prog ((W.alloc (.map #[⟨.bool true, u, 0⟩] 1)).drew) = .ok () ((W.alloc (.map #[⟨.bool true, u, 0⟩, ⟨.bool false, v, 1⟩] 2)).drew) := fun W u v => run_insert_bool W #[⟨.bool true, u, 0⟩] 1 false v rfl
    have I4 : ∀ (W : World) (u v : Value), (Instr.mapUpdate 53 (.map (some W.heap.size)) (.bool true) v).run Try.prog ((W.alloc (.map #[⟨.bool false, u, 0⟩] 1)).drew) = .ok () ((W.alloc (.map #[⟨.bool false, u, 0⟩, ⟨.bool true, v, 1⟩] 2)).drew) := fun W u v => run_insert_bool W #[⟨.bool false, u, 0⟩] 1 true v rfl
    go_enter Try.func19, Try.ntmps19
    go_wp2_with (first | (go_at_call 22; refine D.out.mono ?_; rintro e w1 ⟨rfl, ht⟩; have OL1 := Lib.hid (OL.out w1 ht.1)) | (go_at_call 30; refine OL1.out.mono ?_; rintro e w2 ⟨rfl, rfl⟩; obtain ⟨c0, c1, c2, c3, c4, c5, c6, fr⟩ := ht.1.facts))
    go_region_held3 (fun _ => True) (exact trivial) ((fail))
    all_goals
      have K1 := Lib.hid (mapped1 b d w1 ht.1)
      have K2 := Lib.hid (mapped2 b d w1 ht.1)
      clear c0 c1 c2 c3 c4 c5 c6 fr I1 I2 I3 I4 hmm
      first | (obtain ⟨W2, hW2, hP⟩ := K1.out; rw [hW2]; clear hW2) | (obtain ⟨W2, hW2, hP⟩ := K2.out; rw [hW2]; clear hW2)
      clear K1 K2
      obtain ⟨hBk, hL1, hL2⟩ := hP
      unfold F31 at hL1
      unfold F32 at hL2
      generalize w1.heap.size = r at *
      have hAt2 : At W2.drew b d := hBk.1
      obtain ⟨c0, c1, c2, c3, c4, c5, c6, fr⟩ := (show At W2 b d from hBk.1).facts
      clear c2 c3 c4 c5 c6
      have HAt := Lib.hid hAt2
      have HT := Lib.hid (grown_trans ht.2 hBk.2)
      clear hBk ht hAt2
      have S1 := Lib.hid (fun (h : d.size < d.thr) => show (if d.size < d.thr then growF d (bytesF n) else growF d (avoidBy d (bytesF n))) = _ from if_pos h)
      have S2 := Lib.hid (fun (h : ¬ d.size < d.thr) => show (if d.size < d.thr then growF d (bytesF n) else growF d (avoidBy d (bytesF n))) = _ from if_neg h)
      by_cases hlt : d.size < d.thr
      · have E2 := Lib.hid (S1.out hlt)
        go_wp2
        go_still_tail 15, (by kernel_rfl)
        repeat (first | still_step | still_call (bytes_still _ _))
        refine wpStill_nil ?_
        go_wp2_with (go_at_call 31; refine (slow_any b d _ _ HAt.out (by omega) (by omega) (by omega) (by omega)).mono ?_; rintro e w9 ⟨rfl, ht9⟩)
        go_returns
        have hfin : To b (growF d _) w w9 := ⟨ht9.1, grown_trans HT.out (grown_trans (grown_drew (grown_refl _ _)) ht9.2)⟩
        have E3 := EL.out.trans ((if_neg Bool.false_ne_true).trans E2.out)
        exact ⟨rfl, by rw [E3]; exact hfin⟩
      · have E2 := Lib.hid (S2.out hlt)
        have hge : d.thr ≤ d.size := by omega
        have hge2 : decide (d.size < d.thr) = false := by simp; omega
        clear hlt
        go_wp2
        go_still_tail 15, (by kernel_rfl)
        repeat (first | still_step | still_call (bytes_still _ _))
        refine wpStill_nil ?_
        go_wp2_with (go_at_call 32; refine (avoid_any b d _ _ HAt.out (by omega) (by omega) (by omega) (by omega)).mono ?_; rintro e w9 ⟨rfl, ht9⟩)
        go_returns
        have hfin : To b (growF d _) w w9 := ⟨ht9.1, grown_trans HT.out (grown_trans (grown_drew (grown_refl _ _)) ht9.2)⟩
        have E3 := EL.out.trans ((if_neg Bool.false_ne_true).trans E2.out)
        exact ⟨rfl, by rw [E3]; exact hfin⟩
  · go_enter Try.func19, Try.ntmps19
    go_wp2_with (first | (go_at_call 22; refine D.out.mono ?_; rintro e w1 ⟨rfl, ht⟩; have OL1 := Lib.hid (OL.out w1 ht.1)) | (go_at_call 30; refine OL1.out.mono ?_; rintro e w2 ⟨rfl, rfl⟩))
    go_returns
    exact ⟨rfl, by rw [EL.out]; exact ht⟩
end Go.Proofs.Ytcgcgdbcbmdahaa
