/- The law's same: the buffer and the reference agree. -/
import Derived.Test.YtmjekepiplibkaaRi
namespace Go.Proofs.Ytmjekepiplibkaa
open Go.RowKit
set_option maxHeartbeats 4000000 in
theorem same_any (b r : Nat) (F G : Nat → Prop) (X : Wh) (w : World) (hi : Inv w b F X.buf) (hx : X.Ok) (hr : RInv w r G X) :
    Calls Try.prog 29 #[.pointer (some ⟨b, 0, none⟩), .pointer (some ⟨r, 0, none⟩)] w fun e w' => e = .returned (.bool true) ∧ ∃ m, w' = w.drewN m := by
  have SP := Lib.hid (fun n => by have := space_any b F X.buf (w.drewN n) (hi.drewN n) hx.good; rw [Wh.space_buf hx] at this; exact this)
  have WR := Lib.hid (fun n => by have := written_any b F X.buf (w.drewN n) (hi.drewN n) hx.good; rw [show writtenF X.buf = (X.S.length : Int) from by have := X.u_le; have := hx.len; simp [writtenF, Wh.buf]; omega] at this; exact this)
  have SE := Lib.hid (fun n => sent_any b F X.buf (w.drewN n) (hi.drewN n))
  have DO := Lib.hid (fun n => by have := done_any b F X.buf (w.drewN n) (hi.drewN n); rw [show doneF X.buf = X.done from by have h1 := X.u_le; have h4 := hx.len; unfold doneF Wh.done; simp only [Wh.buf, List.length_drop]; congr 2; apply decide_eq_decide.2; omega] at this; exact this)
  have RSP := Lib.hid (fun n => rspace_any r G X (w.drewN n) (hr.drewN n) hx)
  have RSE := Lib.hid (fun n => (rsent_any r G X (w.drewN n) (hr.drewN n) hx).mono (fun e w' h => (⟨h.1, h.2.symm⟩ : e = _ ∧ w' = _)))
  have RDO := Lib.hid (fun n => rdone_any r G X (w.drewN n) (hr.drewN n) hx)
  obtain ⟨A, vs, hr⟩ := hr
  have hz : (A.size : Int) = (X.S.length : Int) := by rw [hr.size]
  obtain ⟨c0, c1, c2, c3, c4, fr⟩ := hr.facts
  clear c0 c2 c3 c4 fr hi hx hr
  have SE2 : Hid (∀ n, Calls Try.prog 21 #[.pointer (some ⟨b, 0, none⟩)] (w.drewN n) fun e w' => e = .returned (.int .i64 X.sent) ∧ w' = w.drewN n) := Lib.hid SE.out
  clear SE
  generalize X.sent = sn at *
  generalize X.done = dn at *
  generalize X.space = sp at *
  generalize X.S.length = len at *
  have HZ := Lib.hid hz
  have hzn : A.size = len := by omega
  clear hz
  subst hzn
  go_enter Try.func29, Try.ntmps29
  go_wp2
  go_quiet ((first
    | (go_at_call 19; exact Calls.quiet_of (SP.out _))
    | (go_at_call 37; exact Calls.quiet_of (RSP.out _))
    | (go_at_call 20; exact Calls.quiet_of (WR.out _))
    | (go_at_call 21; exact Calls.quiet_of_same (SE2.out _))
    | (go_at_call 39; exact Calls.quiet_of_same (RSE.out _))
    | (go_at_call 13; exact Calls.quiet_of_same (DO.out _))
    | (go_at_call 41; exact Calls.quiet_of (RDO.out _))))
  go_wp2
  go_ret
  exact ⟨rfl, _, rfl⟩
end Go.Proofs.Ytmjekepiplibkaa
