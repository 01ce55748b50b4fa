/- Texts Rtd Append Append2 A of this claim, one behind the other. -/
import Derived.Test.YtpfkeohaaeiaaaaDoorWm5
import Derived.Deep.RegionWith
import Derived.Test.YtpfkeohaaeiaaaaDoorWm1
import Derived.Deep.AppendLies
import Derived.Laws.OwnMore
import Derived.OwnWalk
import Derived.Deep.AppendSrc
import Derived.Laws.CopyRow
import Derived.Deep.RegionHeld3
import Derived.BigQuiet
import Derived.Deep.QuietTactic
import Derived.StillTailTactics
import Derived.BigGuardPart
/- Reassembly: Read. -/
namespace Go.Proofs.YtpfkeohaaeiaaaaDoor.rea
open Go.RowKit Go.Lib
def slotHH (s n x y i : Nat) : Option Nat := if i < n then some (s + i) else if i = n then some x else if i = n + 1 then some y else none
theorem slotHH_is {s n x y i d : Nat} (h : slotHH s n x y i = some d) : (i < n ∧ d = s + i) ∨ (i = n ∧ d = x) ∨ (i = n + 1 ∧ d = y) := by
  unfold slotHH at h
  split at h
  · cases h; exact .inl ⟨‹_›, rfl⟩
  · split at h
    · cases h; exact .inr (.inl ⟨‹_›, rfl⟩)
    · split at h
      · cases h; exact .inr (.inr ⟨‹_›, rfl⟩)
      · cases h
set_option maxRecDepth 100000 in
set_option maxHeartbeats 4000000 in
theorem Read_any (b g1 g2 : Nat) (R : Rb) (n : Nat) (w : World) (h : RbAt w b g1 g2 R) (_hn : n ≤ 1000) (ha : R.at_ ≤ 1125899906842624) (m : Nat) (hm : m = min n (readyF R.hs)) :
    Calls Tryd.prog 20 #[.pointer (some ⟨b, 0, none⟩), .int .i64 n] w fun e w' => e = .returned (.tuple #[.string (strOfNums (R.bs.take m)), .bool (R.kn && decide (((R.at_ + m : Nat) : Int) = R.fin))]) ∧ Tr b g1 g2 w w' ∧ RbAt w' b g1 g2 { R with at_ := R.at_ + m, bs := takeB m R.bs, hs := takeH m R.hs } := by
  have hr := readyF_le R.hs
  have hl := h.hl
  have hsm := h.sm
  have H := Lib.hid h
  have TK := Lib.hid (fun wx (hx : RbAt wx b g1 g2 R) => take_any b g1 g2 R m wx hx (by omega) ha)
  have RD := Lib.hid (fun wx (hx : RbAt wx b g1 g2 R) => ready_any b g1 g2 R wx hx)
  generalize readyF R.hs = r at *
  have m3 : (if r < n then (r : Int) else (n : Int)) = (m : Int) := by split <;> omega
  have m5 : ((m : Int) < 0) = False := eq_false (by omega)
  clear hm
  clear h
  generalize strOfNums (R.bs.take m) = S at TK ⊢
  go_enter Tryd.func20, Tryd.ntmps20
  go_wp2_with fail
  go_region_with (first
    | (go_at_call 35; refine (RD.out _ (by exact H.out.below (Below.refl _ w).drew)).mono ?_; rintro e w1 ⟨rfl, rfl⟩)
    | (go_at_call 34; refine (TK.out _ (by exact H.out.below (Below.refl _ w).drew)).mono ?_; rintro e w2 ⟨rfl, T2, H2⟩))
  have H3 := Lib.hid (And.intro T2 H2)
  have q0 : w2.cell? ⟨b, 0, none⟩ = some (.int .i64 ((R.at_ + m : Nat) : Int)) := H2.cells.1
  have q4 : w2.cell? ⟨b, 4, none⟩ = some (.int .i64 R.fin) := H2.cells.2.2.2.2.1
  have q5 : w2.cell? ⟨b, 5, none⟩ = some (.bool R.kn) := H2.cells.2.2.2.2.2
  clear T2 H2 H TK RD m3 m5
  obtain ⟨A, hA⟩ : ∃ A : Int, ((R.at_ + m : Nat) : Int) = A := ⟨_, rfl⟩
  have HA := Lib.hid hA
  rw [hA] at q0
  clear hA
  have hT : Hid (Tr b g1 g2 w w2 ∧ RbAt w2 b g1 g2 { R with at_ := R.at_ + m, bs := takeB m R.bs, hs := takeH m R.hs }) := Lib.hid ⟨(Tr.refl b g1 g2 w).drew.trans H3.out.1, H3.out.2⟩
  clear H3
  have OLD := Lib.hid (fun (w1 : World) (hb : Below w2.heap.size w2 w1) (p : Addr) (v : Value) (h : w2.cell? p = some v) => (hb.cell (p := p) (World.block_lt_of_cell? _ _ h)).trans h)
  have hK : ∀ n', Hid (Tr b g1 g2 w (w2.drewN n') ∧ RbAt (w2.drewN n') b g1 g2 { R with at_ := R.at_ + m, bs := takeB m R.bs, hs := takeH m R.hs }) := fun n' => Lib.hid ⟨hT.out.1.below (belowN (Below.refl _ _) n'), hT.out.2.below (belowN (Below.refl _ _) n')⟩
  obtain ⟨bl, hbl⟩ : ∃ bl : Bool, (R.kn && decide (((R.at_ + m : Nat) : Int) = R.fin)) = bl := ⟨_, rfl⟩
  have HBL := Lib.hid hbl
  rw [HA.out] at hbl
  cases hkn : R.kn
  · rw [hkn] at q5 hbl
    simp only [Bool.false_and] at hbl
    subst hbl
    have HKN := Lib.hid hkn
    clear hkn
    go_wp2_with fail
    refine grow_region 19 (slotHH 20 17 4 5) (fun jj => (#[.string S, .pointer (some ⟨b, 0, none⟩), .pointer (some ⟨b, 0, none⟩), .pointer (some ⟨b, 5, none⟩), .bool false, .bool false, undef, undef, undef, undef, undef, undef, undef, undef, undef, undef, .bool false, .string S, .bool false] : Array Value)[jj]?.getD undef) (tm := #[.pointer (some ⟨b, 0, none⟩), .int .i64 n, undef, undef, .string S, .bool false, .string S, .pointer (some ⟨b, 0, none⟩), .bool false, .pointer (some ⟨b, 0, none⟩), .pointer (some ⟨b, 0, none⟩), .pointer (some ⟨b, 0, none⟩), .int .i64 n, .pointer (some ⟨b, 0, none⟩), .pointer (some ⟨b, 0, none⟩), .pointer (some ⟨b, 0, none⟩), .int .i64 r, .int .i64 m, .int .i64 m, .string S, .string S, .pointer (some ⟨b, 0, none⟩), .pointer (some ⟨b, 0, none⟩), .pointer (some ⟨b, 5, none⟩), .bool false, .bool false, undef, undef, undef, undef, undef, undef, undef, undef, undef, undef, .bool false]) rfl (by kernel_rfl) rfl (fun i d _ h => by have := slotHH_is h; show d < 37; omega) (fun i j d _ _ h1 h2 => by have := slotHH_is h1; have := slotHH_is h2; omega) ?_ (by kernel_rfl) ?_
    · rintro j o hj ho a w1 hb ⟨hold, hdep⟩
      have r0 := OLD.out _ hb _ _ q0
      have r4 := OLD.out _ hb _ _ q4
      have r5 := OLD.out _ hb _ _ q5
      have o0 := hold 0 (fun i hi h => by have := slotHH_is h; omega)
      have o6 := hold 6 (fun i hi h => by have := slotHH_is h; omega)
      simp at o0 o6
      have hjj : j = 0 ∨ j = 1 ∨ j = 2 ∨ j = 3 ∨ j = 4 ∨ j = 5 ∨ j = 6 ∨ j = 7 ∨ j = 8 ∨ j = 9 ∨ j = 10 ∨ j = 11 ∨ j = 12 ∨ j = 13 ∨ j = 14 ∨ j = 15 ∨ j = 16 ∨ j = 17 ∨ j = 18 := by omega
      rcases hjj with rfl | rfl | rfl | rfl | rfl | rfl | rfl | rfl | rfl | rfl | rfl | rfl | rfl | rfl | rfl | rfl | rfl | rfl | rfl
      all_goals (cases ho; simp [Region.binds, slotHH] at hdep; refine ⟨rfl, rfl, ?_⟩)
      · first | (refine .inl ⟨(by first | rfl | (simp [Region.wanted, yielded, hdep]; done)), fun K hK => ?_⟩; unfold Oper.wp; simp [execOp, Oper.upon, go_sem, Act.eval, o6]; exact hK _ (Below.refl _ _)) | (refine .inl ⟨rfl, fun K hK => ?_⟩; unfold Oper.wp; simp [execOp, Oper.upon, go_sem, Act.eval, o0, o6, r0, r4, r5]; exact hK _ (Below.refl _ _))
      · first | (refine .inl ⟨(by first | rfl | (simp [Region.wanted, yielded, hdep]; done)), fun K hK => ?_⟩; unfold Oper.wp; simp [execOp, Oper.upon, go_sem, Act.eval, o0]; exact hK _ (Below.refl _ _)) | (refine .inl ⟨rfl, fun K hK => ?_⟩; unfold Oper.wp; simp [execOp, Oper.upon, go_sem, Act.eval, o0, o6, r0, r4, r5]; exact hK _ (Below.refl _ _))
      · first | (refine .inl ⟨(by first | rfl | (simp [Region.wanted, yielded, hdep]; done)), fun K hK => ?_⟩; unfold Oper.wp; simp [execOp, Oper.upon, go_sem, Act.eval, hdep]; exact hK _ (Below.refl _ _)) | (refine .inl ⟨rfl, fun K hK => ?_⟩; unfold Oper.wp; simp [execOp, Oper.upon, go_sem, Act.eval, o0, o6, r0, r4, r5]; exact hK _ (Below.refl _ _))
      · first | (refine .inl ⟨(by first | rfl | (simp [Region.wanted, yielded, hdep]; done)), fun K hK => ?_⟩; unfold Oper.wp; simp [execOp, Oper.upon, go_sem, Act.eval, hdep]; exact hK _ (Below.refl _ _)) | (refine .inl ⟨rfl, fun K hK => ?_⟩; unfold Oper.wp; simp [execOp, Oper.upon, go_sem, Act.eval, o0, o6, r0, r4, r5]; exact hK _ (Below.refl _ _))
      · first | (refine .inl ⟨(by first | rfl | (simp [Region.wanted, yielded, hdep]; done)), fun K hK => ?_⟩; unfold Oper.wp; simp [execOp, Oper.upon, go_sem, Act.eval, hdep, r5]; exact hK _ (Below.refl _ _)) | (refine .inl ⟨rfl, fun K hK => ?_⟩; unfold Oper.wp; simp [execOp, Oper.upon, go_sem, Act.eval, o0, o6, r0, r4, r5]; exact hK _ (Below.refl _ _))
      · first | (refine .inl ⟨(by first | rfl | (simp [Region.wanted, yielded, hdep]; done)), fun K hK => ?_⟩; unfold Oper.wp; simp [execOp, Oper.upon, go_sem, Act.eval, hdep]; exact hK _ (Below.refl _ _)) | (refine .inl ⟨rfl, fun K hK => ?_⟩; unfold Oper.wp; simp [execOp, Oper.upon, go_sem, Act.eval, o0, o6, r0, r4, r5]; exact hK _ (Below.refl _ _))
      · exact .inr ⟨(by simp [Region.wanted, yielded, hdep]; done), rfl⟩
      · exact .inr ⟨(by simp [Region.wanted, yielded, hdep]; done), rfl⟩
      · exact .inr ⟨(by simp [Region.wanted, yielded, hdep]; done), rfl⟩
      · exact .inr ⟨(by simp [Region.wanted, yielded, hdep]; done), rfl⟩
      · exact .inr ⟨(by simp [Region.wanted, yielded, hdep]; done), rfl⟩
      · exact .inr ⟨(by simp [Region.wanted, yielded, hdep]; done), rfl⟩
      · exact .inr ⟨(by simp [Region.wanted, yielded, hdep]; done), rfl⟩
      · exact .inr ⟨(by simp [Region.wanted, yielded, hdep]; done), rfl⟩
      · exact .inr ⟨(by simp [Region.wanted, yielded, hdep]; done), rfl⟩
      · exact .inr ⟨(by simp [Region.wanted, yielded, hdep]; done), rfl⟩
      · first | (refine .inl ⟨(by first | rfl | (simp [Region.wanted, yielded, hdep]; done)), fun K hK => ?_⟩; unfold Oper.wp; simp [execOp, Oper.upon, go_sem, Act.eval, hdep]; exact hK _ (Below.refl _ _)) | (refine .inl ⟨rfl, fun K hK => ?_⟩; unfold Oper.wp; simp [execOp, Oper.upon, go_sem, Act.eval, o0, o6, r0, r4, r5]; exact hK _ (Below.refl _ _))
      · first | (refine .inl ⟨(by first | rfl | (simp [Region.wanted, yielded, hdep]; done)), fun K hK => ?_⟩; unfold Oper.wp; simp [execOp, Oper.upon, go_sem, Act.eval, hdep]; exact hK _ (Below.refl _ _)) | (refine .inl ⟨rfl, fun K hK => ?_⟩; unfold Oper.wp; simp [execOp, Oper.upon, go_sem, Act.eval, o0, o6, r0, r4, r5]; exact hK _ (Below.refl _ _))
      · first | (refine .inl ⟨(by first | rfl | (simp [Region.wanted, yielded, hdep]; done)), fun K hK => ?_⟩; unfold Oper.wp; simp [execOp, Oper.upon, go_sem, Act.eval, hdep]; exact hK _ (Below.refl _ _)) | (refine .inl ⟨rfl, fun K hK => ?_⟩; unfold Oper.wp; simp [execOp, Oper.upon, go_sem, Act.eval, o0, o6, r0, r4, r5]; exact hK _ (Below.refl _ _))
    rintro w3 hb3
    have hX := (And.intro (hT.out.1.below hb3) (hT.out.2.below hb3) : Tr b g1 g2 w w3 ∧ RbAt w3 b g1 g2 { R with at_ := R.at_ + m, bs := takeB m R.bs, hs := takeH m R.hs })
    go_wp2
    go_returns
    exact ⟨by rw [HBL.out]; rfl, hX⟩
  · rw [hkn] at q5 hbl
    simp only [Bool.true_and] at hbl
    have HKN := Lib.hid hkn
    clear hkn
    by_cases hAf : A = R.fin
    · have d0 : (A == R.fin) = true := beq_iff_eq.2 hAf
      rw [decide_eq_true hAf] at hbl
      subst hbl
      clear hAf
      go_wp2_with fail
      refine grow_region 19 (slotHH 20 17 4 5) (fun jj => (#[.string S, .pointer (some ⟨b, 0, none⟩), .pointer (some ⟨b, 0, none⟩), .pointer (some ⟨b, 5, none⟩), .bool true, .bool true, .pointer (some ⟨b, 0, none⟩), .pointer (some ⟨b, 0, none⟩), .pointer (some ⟨b, 0, none⟩), .pointer (some ⟨b, 0, none⟩), .int .i64 A, .pointer (some ⟨b, 0, none⟩), .pointer (some ⟨b, 0, none⟩), .pointer (some ⟨b, 4, none⟩), .int .i64 R.fin, .bool true, .bool true, .string S, .bool true] : Array Value)[jj]?.getD undef) (tm := #[.pointer (some ⟨b, 0, none⟩), .int .i64 n, undef, undef, .string S, .bool true, .string S, .pointer (some ⟨b, 0, none⟩), .bool false, .pointer (some ⟨b, 0, none⟩), .pointer (some ⟨b, 0, none⟩), .pointer (some ⟨b, 0, none⟩), .int .i64 n, .pointer (some ⟨b, 0, none⟩), .pointer (some ⟨b, 0, none⟩), .pointer (some ⟨b, 0, none⟩), .int .i64 r, .int .i64 m, .int .i64 m, .string S, .string S, .pointer (some ⟨b, 0, none⟩), .pointer (some ⟨b, 0, none⟩), .pointer (some ⟨b, 5, none⟩), .bool true, .bool true, .pointer (some ⟨b, 0, none⟩), .pointer (some ⟨b, 0, none⟩), .pointer (some ⟨b, 0, none⟩), .pointer (some ⟨b, 0, none⟩), .int .i64 A, .pointer (some ⟨b, 0, none⟩), .pointer (some ⟨b, 0, none⟩), .pointer (some ⟨b, 4, none⟩), .int .i64 R.fin, .bool true, .bool true]) rfl (by kernel_rfl) rfl (fun i d _ h => by have := slotHH_is h; show d < 37; omega) (fun i j d _ _ h1 h2 => by have := slotHH_is h1; have := slotHH_is h2; omega) ?_ (by kernel_rfl) ?_
      · rintro j o hj ho a w1 hb ⟨hold, hdep⟩
        have r0 := OLD.out _ hb _ _ q0
        have r4 := OLD.out _ hb _ _ q4
        have r5 := OLD.out _ hb _ _ q5
        have o0 := hold 0 (fun i hi h => by have := slotHH_is h; omega)
        have o6 := hold 6 (fun i hi h => by have := slotHH_is h; omega)
        simp at o0 o6
        have hjj : j = 0 ∨ j = 1 ∨ j = 2 ∨ j = 3 ∨ j = 4 ∨ j = 5 ∨ j = 6 ∨ j = 7 ∨ j = 8 ∨ j = 9 ∨ j = 10 ∨ j = 11 ∨ j = 12 ∨ j = 13 ∨ j = 14 ∨ j = 15 ∨ j = 16 ∨ j = 17 ∨ j = 18 := by omega
        rcases hjj with rfl | rfl | rfl | rfl | rfl | rfl | rfl | rfl | rfl | rfl | rfl | rfl | rfl | rfl | rfl | rfl | rfl | rfl | rfl
        all_goals (cases ho; simp [Region.binds, slotHH] at hdep; refine ⟨rfl, rfl, ?_⟩)
        · first | (refine .inl ⟨(by first | rfl | (simp [Region.wanted, yielded, hdep]; done)), fun K hK => ?_⟩; unfold Oper.wp; simp [execOp, Oper.upon, go_sem, Act.eval, o6]; exact hK _ (Below.refl _ _)) | (refine .inl ⟨rfl, fun K hK => ?_⟩; unfold Oper.wp; simp [execOp, Oper.upon, go_sem, Act.eval, o0, o6, r0, r4, r5, d0]; exact hK _ (Below.refl _ _))
        · first | (refine .inl ⟨(by first | rfl | (simp [Region.wanted, yielded, hdep]; done)), fun K hK => ?_⟩; unfold Oper.wp; simp [execOp, Oper.upon, go_sem, Act.eval, o0]; exact hK _ (Below.refl _ _)) | (refine .inl ⟨rfl, fun K hK => ?_⟩; unfold Oper.wp; simp [execOp, Oper.upon, go_sem, Act.eval, o0, o6, r0, r4, r5, d0]; exact hK _ (Below.refl _ _))
        · first | (refine .inl ⟨(by first | rfl | (simp [Region.wanted, yielded, hdep]; done)), fun K hK => ?_⟩; unfold Oper.wp; simp [execOp, Oper.upon, go_sem, Act.eval, hdep]; exact hK _ (Below.refl _ _)) | (refine .inl ⟨rfl, fun K hK => ?_⟩; unfold Oper.wp; simp [execOp, Oper.upon, go_sem, Act.eval, o0, o6, r0, r4, r5, d0]; exact hK _ (Below.refl _ _))
        · first | (refine .inl ⟨(by first | rfl | (simp [Region.wanted, yielded, hdep]; done)), fun K hK => ?_⟩; unfold Oper.wp; simp [execOp, Oper.upon, go_sem, Act.eval, hdep]; exact hK _ (Below.refl _ _)) | (refine .inl ⟨rfl, fun K hK => ?_⟩; unfold Oper.wp; simp [execOp, Oper.upon, go_sem, Act.eval, o0, o6, r0, r4, r5, d0]; exact hK _ (Below.refl _ _))
        · first | (refine .inl ⟨(by first | rfl | (simp [Region.wanted, yielded, hdep]; done)), fun K hK => ?_⟩; unfold Oper.wp; simp [execOp, Oper.upon, go_sem, Act.eval, hdep, r5]; exact hK _ (Below.refl _ _)) | (refine .inl ⟨rfl, fun K hK => ?_⟩; unfold Oper.wp; simp [execOp, Oper.upon, go_sem, Act.eval, o0, o6, r0, r4, r5, d0]; exact hK _ (Below.refl _ _))
        · first | (refine .inl ⟨(by first | rfl | (simp [Region.wanted, yielded, hdep]; done)), fun K hK => ?_⟩; unfold Oper.wp; simp [execOp, Oper.upon, go_sem, Act.eval, hdep]; exact hK _ (Below.refl _ _)) | (refine .inl ⟨rfl, fun K hK => ?_⟩; unfold Oper.wp; simp [execOp, Oper.upon, go_sem, Act.eval, o0, o6, r0, r4, r5, d0]; exact hK _ (Below.refl _ _))
        · first | (refine .inl ⟨(by first | rfl | (simp [Region.wanted, yielded, hdep]; done)), fun K hK => ?_⟩; unfold Oper.wp; simp [execOp, Oper.upon, go_sem, Act.eval, o0]; exact hK _ (Below.refl _ _)) | (refine .inl ⟨rfl, fun K hK => ?_⟩; unfold Oper.wp; simp [execOp, Oper.upon, go_sem, Act.eval, o0, o6, r0, r4, r5, d0]; exact hK _ (Below.refl _ _))
        · first | (refine .inl ⟨(by first | rfl | (simp [Region.wanted, yielded, hdep]; done)), fun K hK => ?_⟩; unfold Oper.wp; simp [execOp, Oper.upon, go_sem, Act.eval, hdep]; exact hK _ (Below.refl _ _)) | (refine .inl ⟨rfl, fun K hK => ?_⟩; unfold Oper.wp; simp [execOp, Oper.upon, go_sem, Act.eval, o0, o6, r0, r4, r5, d0]; exact hK _ (Below.refl _ _))
        · first | (refine .inl ⟨(by first | rfl | (simp [Region.wanted, yielded, hdep]; done)), fun K hK => ?_⟩; unfold Oper.wp; simp [execOp, Oper.upon, go_sem, Act.eval, hdep]; exact hK _ (Below.refl _ _)) | (refine .inl ⟨rfl, fun K hK => ?_⟩; unfold Oper.wp; simp [execOp, Oper.upon, go_sem, Act.eval, o0, o6, r0, r4, r5, d0]; exact hK _ (Below.refl _ _))
        · first | (refine .inl ⟨(by first | rfl | (simp [Region.wanted, yielded, hdep]; done)), fun K hK => ?_⟩; unfold Oper.wp; simp [execOp, Oper.upon, go_sem, Act.eval, hdep]; exact hK _ (Below.refl _ _)) | (refine .inl ⟨rfl, fun K hK => ?_⟩; unfold Oper.wp; simp [execOp, Oper.upon, go_sem, Act.eval, o0, o6, r0, r4, r5, d0]; exact hK _ (Below.refl _ _))
        · first | (refine .inl ⟨(by first | rfl | (simp [Region.wanted, yielded, hdep]; done)), fun K hK => ?_⟩; unfold Oper.wp; simp [execOp, Oper.upon, go_sem, Act.eval, hdep, r0]; exact hK _ (Below.refl _ _)) | (refine .inl ⟨rfl, fun K hK => ?_⟩; unfold Oper.wp; simp [execOp, Oper.upon, go_sem, Act.eval, o0, o6, r0, r4, r5, d0]; exact hK _ (Below.refl _ _))
        · first | (refine .inl ⟨(by first | rfl | (simp [Region.wanted, yielded, hdep]; done)), fun K hK => ?_⟩; unfold Oper.wp; simp [execOp, Oper.upon, go_sem, Act.eval, o0]; exact hK _ (Below.refl _ _)) | (refine .inl ⟨rfl, fun K hK => ?_⟩; unfold Oper.wp; simp [execOp, Oper.upon, go_sem, Act.eval, o0, o6, r0, r4, r5, d0]; exact hK _ (Below.refl _ _))
        · first | (refine .inl ⟨(by first | rfl | (simp [Region.wanted, yielded, hdep]; done)), fun K hK => ?_⟩; unfold Oper.wp; simp [execOp, Oper.upon, go_sem, Act.eval, hdep]; exact hK _ (Below.refl _ _)) | (refine .inl ⟨rfl, fun K hK => ?_⟩; unfold Oper.wp; simp [execOp, Oper.upon, go_sem, Act.eval, o0, o6, r0, r4, r5, d0]; exact hK _ (Below.refl _ _))
        · first | (refine .inl ⟨(by first | rfl | (simp [Region.wanted, yielded, hdep]; done)), fun K hK => ?_⟩; unfold Oper.wp; simp [execOp, Oper.upon, go_sem, Act.eval, hdep]; exact hK _ (Below.refl _ _)) | (refine .inl ⟨rfl, fun K hK => ?_⟩; unfold Oper.wp; simp [execOp, Oper.upon, go_sem, Act.eval, o0, o6, r0, r4, r5, d0]; exact hK _ (Below.refl _ _))
        · first | (refine .inl ⟨(by first | rfl | (simp [Region.wanted, yielded, hdep]; done)), fun K hK => ?_⟩; unfold Oper.wp; simp [execOp, Oper.upon, go_sem, Act.eval, hdep, r4]; exact hK _ (Below.refl _ _)) | (refine .inl ⟨rfl, fun K hK => ?_⟩; unfold Oper.wp; simp [execOp, Oper.upon, go_sem, Act.eval, o0, o6, r0, r4, r5, d0]; exact hK _ (Below.refl _ _))
        · first | (refine .inl ⟨(by first | rfl | (simp [Region.wanted, yielded, hdep]; done)), fun K hK => ?_⟩; unfold Oper.wp; simp [execOp, Oper.upon, go_sem, Act.eval, hdep, d0]; exact hK _ (Below.refl _ _)) | (refine .inl ⟨rfl, fun K hK => ?_⟩; unfold Oper.wp; simp [execOp, Oper.upon, go_sem, Act.eval, o0, o6, r0, r4, r5, d0]; exact hK _ (Below.refl _ _))
        · first | (refine .inl ⟨(by first | rfl | (simp [Region.wanted, yielded, hdep]; done)), fun K hK => ?_⟩; unfold Oper.wp; simp [execOp, Oper.upon, go_sem, Act.eval, hdep]; exact hK _ (Below.refl _ _)) | (refine .inl ⟨rfl, fun K hK => ?_⟩; unfold Oper.wp; simp [execOp, Oper.upon, go_sem, Act.eval, o0, o6, r0, r4, r5, d0]; exact hK _ (Below.refl _ _))
        · first | (refine .inl ⟨(by first | rfl | (simp [Region.wanted, yielded, hdep]; done)), fun K hK => ?_⟩; unfold Oper.wp; simp [execOp, Oper.upon, go_sem, Act.eval, hdep]; exact hK _ (Below.refl _ _)) | (refine .inl ⟨rfl, fun K hK => ?_⟩; unfold Oper.wp; simp [execOp, Oper.upon, go_sem, Act.eval, o0, o6, r0, r4, r5, d0]; exact hK _ (Below.refl _ _))
        · first | (refine .inl ⟨(by first | rfl | (simp [Region.wanted, yielded, hdep]; done)), fun K hK => ?_⟩; unfold Oper.wp; simp [execOp, Oper.upon, go_sem, Act.eval, hdep]; exact hK _ (Below.refl _ _)) | (refine .inl ⟨rfl, fun K hK => ?_⟩; unfold Oper.wp; simp [execOp, Oper.upon, go_sem, Act.eval, o0, o6, r0, r4, r5, d0]; exact hK _ (Below.refl _ _))
      rintro w3 hb3
      have hX := (And.intro (hT.out.1.below hb3) (hT.out.2.below hb3) : Tr b g1 g2 w w3 ∧ RbAt w3 b g1 g2 { R with at_ := R.at_ + m, bs := takeB m R.bs, hs := takeH m R.hs })
      go_wp2
      go_returns
      exact ⟨by rw [HBL.out]; rfl, hX⟩
    · have d0 : (A == R.fin) = false := beq_eq_false_iff_ne.2 hAf
      rw [decide_eq_false hAf] at hbl
      subst hbl
      clear hAf
      go_wp2_with fail
      refine grow_region 19 (slotHH 20 17 4 5) (fun jj => (#[.string S, .pointer (some ⟨b, 0, none⟩), .pointer (some ⟨b, 0, none⟩), .pointer (some ⟨b, 5, none⟩), .bool true, .bool true, .pointer (some ⟨b, 0, none⟩), .pointer (some ⟨b, 0, none⟩), .pointer (some ⟨b, 0, none⟩), .pointer (some ⟨b, 0, none⟩), .int .i64 A, .pointer (some ⟨b, 0, none⟩), .pointer (some ⟨b, 0, none⟩), .pointer (some ⟨b, 4, none⟩), .int .i64 R.fin, .bool false, .bool false, .string S, .bool false] : Array Value)[jj]?.getD undef) (tm := #[.pointer (some ⟨b, 0, none⟩), .int .i64 n, undef, undef, .string S, .bool false, .string S, .pointer (some ⟨b, 0, none⟩), .bool false, .pointer (some ⟨b, 0, none⟩), .pointer (some ⟨b, 0, none⟩), .pointer (some ⟨b, 0, none⟩), .int .i64 n, .pointer (some ⟨b, 0, none⟩), .pointer (some ⟨b, 0, none⟩), .pointer (some ⟨b, 0, none⟩), .int .i64 r, .int .i64 m, .int .i64 m, .string S, .string S, .pointer (some ⟨b, 0, none⟩), .pointer (some ⟨b, 0, none⟩), .pointer (some ⟨b, 5, none⟩), .bool true, .bool true, .pointer (some ⟨b, 0, none⟩), .pointer (some ⟨b, 0, none⟩), .pointer (some ⟨b, 0, none⟩), .pointer (some ⟨b, 0, none⟩), .int .i64 A, .pointer (some ⟨b, 0, none⟩), .pointer (some ⟨b, 0, none⟩), .pointer (some ⟨b, 4, none⟩), .int .i64 R.fin, .bool false, .bool false]) rfl (by kernel_rfl) rfl (fun i d _ h => by have := slotHH_is h; show d < 37; omega) (fun i j d _ _ h1 h2 => by have := slotHH_is h1; have := slotHH_is h2; omega) ?_ (by kernel_rfl) ?_
      · rintro j o hj ho a w1 hb ⟨hold, hdep⟩
        have r0 := OLD.out _ hb _ _ q0
        have r4 := OLD.out _ hb _ _ q4
        have r5 := OLD.out _ hb _ _ q5
        have o0 := hold 0 (fun i hi h => by have := slotHH_is h; omega)
        have o6 := hold 6 (fun i hi h => by have := slotHH_is h; omega)
        simp at o0 o6
        have hjj : j = 0 ∨ j = 1 ∨ j = 2 ∨ j = 3 ∨ j = 4 ∨ j = 5 ∨ j = 6 ∨ j = 7 ∨ j = 8 ∨ j = 9 ∨ j = 10 ∨ j = 11 ∨ j = 12 ∨ j = 13 ∨ j = 14 ∨ j = 15 ∨ j = 16 ∨ j = 17 ∨ j = 18 := by omega
        rcases hjj with rfl | rfl | rfl | rfl | rfl | rfl | rfl | rfl | rfl | rfl | rfl | rfl | rfl | rfl | rfl | rfl | rfl | rfl | rfl
        all_goals (cases ho; simp [Region.binds, slotHH] at hdep; refine ⟨rfl, rfl, ?_⟩)
        · first | (refine .inl ⟨(by first | rfl | (simp [Region.wanted, yielded, hdep]; done)), fun K hK => ?_⟩; unfold Oper.wp; simp [execOp, Oper.upon, go_sem, Act.eval, o6]; exact hK _ (Below.refl _ _)) | (refine .inl ⟨rfl, fun K hK => ?_⟩; unfold Oper.wp; simp [execOp, Oper.upon, go_sem, Act.eval, o0, o6, r0, r4, r5, d0]; exact hK _ (Below.refl _ _))
        · first | (refine .inl ⟨(by first | rfl | (simp [Region.wanted, yielded, hdep]; done)), fun K hK => ?_⟩; unfold Oper.wp; simp [execOp, Oper.upon, go_sem, Act.eval, o0]; exact hK _ (Below.refl _ _)) | (refine .inl ⟨rfl, fun K hK => ?_⟩; unfold Oper.wp; simp [execOp, Oper.upon, go_sem, Act.eval, o0, o6, r0, r4, r5, d0]; exact hK _ (Below.refl _ _))
        · first | (refine .inl ⟨(by first | rfl | (simp [Region.wanted, yielded, hdep]; done)), fun K hK => ?_⟩; unfold Oper.wp; simp [execOp, Oper.upon, go_sem, Act.eval, hdep]; exact hK _ (Below.refl _ _)) | (refine .inl ⟨rfl, fun K hK => ?_⟩; unfold Oper.wp; simp [execOp, Oper.upon, go_sem, Act.eval, o0, o6, r0, r4, r5, d0]; exact hK _ (Below.refl _ _))
        · first | (refine .inl ⟨(by first | rfl | (simp [Region.wanted, yielded, hdep]; done)), fun K hK => ?_⟩; unfold Oper.wp; simp [execOp, Oper.upon, go_sem, Act.eval, hdep]; exact hK _ (Below.refl _ _)) | (refine .inl ⟨rfl, fun K hK => ?_⟩; unfold Oper.wp; simp [execOp, Oper.upon, go_sem, Act.eval, o0, o6, r0, r4, r5, d0]; exact hK _ (Below.refl _ _))
        · first | (refine .inl ⟨(by first | rfl | (simp [Region.wanted, yielded, hdep]; done)), fun K hK => ?_⟩; unfold Oper.wp; simp [execOp, Oper.upon, go_sem, Act.eval, hdep, r5]; exact hK _ (Below.refl _ _)) | (refine .inl ⟨rfl, fun K hK => ?_⟩; unfold Oper.wp; simp [execOp, Oper.upon, go_sem, Act.eval, o0, o6, r0, r4, r5, d0]; exact hK _ (Below.refl _ _))
        · first | (refine .inl ⟨(by first | rfl | (simp [Region.wanted, yielded, hdep]; done)), fun K hK => ?_⟩; unfold Oper.wp; simp [execOp, Oper.upon, go_sem, Act.eval, hdep]; exact hK _ (Below.refl _ _)) | (refine .inl ⟨rfl, fun K hK => ?_⟩; unfold Oper.wp; simp [execOp, Oper.upon, go_sem, Act.eval, o0, o6, r0, r4, r5, d0]; exact hK _ (Below.refl _ _))
        · first | (refine .inl ⟨(by first | rfl | (simp [Region.wanted, yielded, hdep]; done)), fun K hK => ?_⟩; unfold Oper.wp; simp [execOp, Oper.upon, go_sem, Act.eval, o0]; exact hK _ (Below.refl _ _)) | (refine .inl ⟨rfl, fun K hK => ?_⟩; unfold Oper.wp; simp [execOp, Oper.upon, go_sem, Act.eval, o0, o6, r0, r4, r5, d0]; exact hK _ (Below.refl _ _))
        · first | (refine .inl ⟨(by first | rfl | (simp [Region.wanted, yielded, hdep]; done)), fun K hK => ?_⟩; unfold Oper.wp; simp [execOp, Oper.upon, go_sem, Act.eval, hdep]; exact hK _ (Below.refl _ _)) | (refine .inl ⟨rfl, fun K hK => ?_⟩; unfold Oper.wp; simp [execOp, Oper.upon, go_sem, Act.eval, o0, o6, r0, r4, r5, d0]; exact hK _ (Below.refl _ _))
        · first | (refine .inl ⟨(by first | rfl | (simp [Region.wanted, yielded, hdep]; done)), fun K hK => ?_⟩; unfold Oper.wp; simp [execOp, Oper.upon, go_sem, Act.eval, hdep]; exact hK _ (Below.refl _ _)) | (refine .inl ⟨rfl, fun K hK => ?_⟩; unfold Oper.wp; simp [execOp, Oper.upon, go_sem, Act.eval, o0, o6, r0, r4, r5, d0]; exact hK _ (Below.refl _ _))
        · first | (refine .inl ⟨(by first | rfl | (simp [Region.wanted, yielded, hdep]; done)), fun K hK => ?_⟩; unfold Oper.wp; simp [execOp, Oper.upon, go_sem, Act.eval, hdep]; exact hK _ (Below.refl _ _)) | (refine .inl ⟨rfl, fun K hK => ?_⟩; unfold Oper.wp; simp [execOp, Oper.upon, go_sem, Act.eval, o0, o6, r0, r4, r5, d0]; exact hK _ (Below.refl _ _))
        · first | (refine .inl ⟨(by first | rfl | (simp [Region.wanted, yielded, hdep]; done)), fun K hK => ?_⟩; unfold Oper.wp; simp [execOp, Oper.upon, go_sem, Act.eval, hdep, r0]; exact hK _ (Below.refl _ _)) | (refine .inl ⟨rfl, fun K hK => ?_⟩; unfold Oper.wp; simp [execOp, Oper.upon, go_sem, Act.eval, o0, o6, r0, r4, r5, d0]; exact hK _ (Below.refl _ _))
        · first | (refine .inl ⟨(by first | rfl | (simp [Region.wanted, yielded, hdep]; done)), fun K hK => ?_⟩; unfold Oper.wp; simp [execOp, Oper.upon, go_sem, Act.eval, o0]; exact hK _ (Below.refl _ _)) | (refine .inl ⟨rfl, fun K hK => ?_⟩; unfold Oper.wp; simp [execOp, Oper.upon, go_sem, Act.eval, o0, o6, r0, r4, r5, d0]; exact hK _ (Below.refl _ _))
        · first | (refine .inl ⟨(by first | rfl | (simp [Region.wanted, yielded, hdep]; done)), fun K hK => ?_⟩; unfold Oper.wp; simp [execOp, Oper.upon, go_sem, Act.eval, hdep]; exact hK _ (Below.refl _ _)) | (refine .inl ⟨rfl, fun K hK => ?_⟩; unfold Oper.wp; simp [execOp, Oper.upon, go_sem, Act.eval, o0, o6, r0, r4, r5, d0]; exact hK _ (Below.refl _ _))
        · first | (refine .inl ⟨(by first | rfl | (simp [Region.wanted, yielded, hdep]; done)), fun K hK => ?_⟩; unfold Oper.wp; simp [execOp, Oper.upon, go_sem, Act.eval, hdep]; exact hK _ (Below.refl _ _)) | (refine .inl ⟨rfl, fun K hK => ?_⟩; unfold Oper.wp; simp [execOp, Oper.upon, go_sem, Act.eval, o0, o6, r0, r4, r5, d0]; exact hK _ (Below.refl _ _))
        · first | (refine .inl ⟨(by first | rfl | (simp [Region.wanted, yielded, hdep]; done)), fun K hK => ?_⟩; unfold Oper.wp; simp [execOp, Oper.upon, go_sem, Act.eval, hdep, r4]; exact hK _ (Below.refl _ _)) | (refine .inl ⟨rfl, fun K hK => ?_⟩; unfold Oper.wp; simp [execOp, Oper.upon, go_sem, Act.eval, o0, o6, r0, r4, r5, d0]; exact hK _ (Below.refl _ _))
        · first | (refine .inl ⟨(by first | rfl | (simp [Region.wanted, yielded, hdep]; done)), fun K hK => ?_⟩; unfold Oper.wp; simp [execOp, Oper.upon, go_sem, Act.eval, hdep, d0]; exact hK _ (Below.refl _ _)) | (refine .inl ⟨rfl, fun K hK => ?_⟩; unfold Oper.wp; simp [execOp, Oper.upon, go_sem, Act.eval, o0, o6, r0, r4, r5, d0]; exact hK _ (Below.refl _ _))
        · first | (refine .inl ⟨(by first | rfl | (simp [Region.wanted, yielded, hdep]; done)), fun K hK => ?_⟩; unfold Oper.wp; simp [execOp, Oper.upon, go_sem, Act.eval, hdep]; exact hK _ (Below.refl _ _)) | (refine .inl ⟨rfl, fun K hK => ?_⟩; unfold Oper.wp; simp [execOp, Oper.upon, go_sem, Act.eval, o0, o6, r0, r4, r5, d0]; exact hK _ (Below.refl _ _))
        · first | (refine .inl ⟨(by first | rfl | (simp [Region.wanted, yielded, hdep]; done)), fun K hK => ?_⟩; unfold Oper.wp; simp [execOp, Oper.upon, go_sem, Act.eval, hdep]; exact hK _ (Below.refl _ _)) | (refine .inl ⟨rfl, fun K hK => ?_⟩; unfold Oper.wp; simp [execOp, Oper.upon, go_sem, Act.eval, o0, o6, r0, r4, r5, d0]; exact hK _ (Below.refl _ _))
        · first | (refine .inl ⟨(by first | rfl | (simp [Region.wanted, yielded, hdep]; done)), fun K hK => ?_⟩; unfold Oper.wp; simp [execOp, Oper.upon, go_sem, Act.eval, hdep]; exact hK _ (Below.refl _ _)) | (refine .inl ⟨rfl, fun K hK => ?_⟩; unfold Oper.wp; simp [execOp, Oper.upon, go_sem, Act.eval, o0, o6, r0, r4, r5, d0]; exact hK _ (Below.refl _ _))
      rintro w3 hb3
      have hX := (And.intro (hT.out.1.below hb3) (hT.out.2.below hb3) : Tr b g1 g2 w w3 ∧ RbAt w3 b g1 g2 { R with at_ := R.at_ + m, bs := takeB m R.bs, hs := takeH m R.hs })
      go_wp2
      go_returns
      exact ⟨by rw [HBL.out]; rfl, hX⟩
end Go.Proofs.YtpfkeohaaeiaaaaDoor.rea
/- 'append(own, src...)' from whatever source: nil, empty, or a row in memory; and what such a source is. -/
namespace Go.Proofs.YtpfkeohaaeiaaaaDoor
open Go.RowKit Go.WideShapes Go.ChangeShapes
/-- the slice value v of n elements, size cells each, holds these cells -/
def RowAt (size : Nat) (w : World) (v : Value) (n : Nat) (cs : List Value) : Prop :=
  cs.length = n * size ∧ ((∃ a cap, v = .slice a 0 cap ∧ (a = none → cap = 0) ∧ n = 0) ∨
  (∃ b off cap, v = .slice (some ⟨b, off, none⟩) n cap ∧ 0 < n ∧ n ≤ cap ∧ cap ≤ maxLen ∧ ∀ j u, cs[j]? = some u → w.cell? ⟨b, off + j, none⟩ = some u))
theorem RowAt.of_ints {k : IntKind} {w : World} {v : Value} {zs : List Int} (h : IntsAt k w v zs) : RowAt 1 w v zs.length (zs.map (.int k)) := by
  refine ⟨by simp, ?_⟩
  rcases h with ⟨a, cap, rfl, hnil, rfl⟩ | ⟨b, off, cap, rfl, h0, hl, hc, hx⟩
  · exact .inl ⟨a, cap, rfl, hnil, rfl⟩
  · refine .inr ⟨b, off, cap, rfl, h0, hl, hc, fun j u hu => ?_⟩
    rw [List.getElem?_map, Option.map_eq_some_iff] at hu
    obtain ⟨z, hz, rfl⟩ := hu
    have hj : j < zs.length := (List.getElem?_eq_some_iff.1 hz).1
    rw [hx j hj, hz]; rfl
theorem RowAt.to_ints {k : IntKind} {w : World} {v : Value} {zs : List Int} {n : Nat} (h : RowAt 1 w v n (zs.map (.int k))) : IntsAt k w v zs := by
  obtain ⟨hl, h⟩ := h
  simp only [List.length_map, Nat.mul_one] at hl
  rcases h with ⟨a, cap, rfl, hnil, rfl⟩ | ⟨b, off, cap, rfl, h0, hn, hc, hx⟩
  · exact .inl ⟨a, cap, rfl, hnil, List.eq_nil_of_length_eq_zero hl⟩
  · subst hl
    exact .inr ⟨b, off, cap, rfl, h0, hn, hc, fun j hj => hx j _ (by simp [hj])⟩
theorem RowAt.below {size : Nat} {w w' : World} {v : Value} {n : Nat} {cs : List Value} (h : RowAt size w v n cs) (hb : Below w.heap.size w w') : RowAt size w' v n cs := by
  obtain ⟨hl, h⟩ := h
  refine ⟨hl, ?_⟩
  rcases h with h | ⟨b, off, cap, h1, h2, h3, h4, h5⟩
  · exact .inl h
  · exact .inr ⟨b, off, cap, h1, h2, h3, h4, fun j u hj => (hb.cell (p := ⟨b, off + j, none⟩) (World.block_lt_of_cell? _ _ (h5 j u hj))).trans (h5 j u hj)⟩
theorem RowAt.of_own {size base : Nat} {e : TypeId} {w : World} {v : Value} {n : Nat} {cs : List Value} (h : w.ownsRow base e size v n cs) : RowAt size w v n cs := by
  obtain ⟨hl, h⟩ := h
  refine ⟨hl, ?_⟩
  rcases h with ⟨rfl, rfl⟩ | ⟨g, cap, cur, rfl, hb, hg, hn, hc, hs, ht⟩
  · exact .inl ⟨_, _, rfl, fun _ => rfl, rfl⟩
  · rcases Nat.eq_zero_or_pos n with h0 | h0
    · subst h0; exact .inl ⟨_, _, rfl, fun h => (by cases h), rfl⟩
    · refine .inr ⟨g, 0, cap, rfl, h0, hn, hc, fun j u hu => ?_⟩
      rw [← ht, List.getElem?_take] at hu
      split at hu
      · simp only [World.cell?, hg, Nat.zero_add]
        simpa using hu
      · cases hu
theorem ints_oneCell (k : IntKind) (zs : List Int) : ∀ u ∈ zs.map (Value.int k), u.oneCell' = true := by
  intro u hu
  obtain ⟨z, _, rfl⟩ := List.mem_map.1 hu
  rfl
theorem own_base {w : World} {base : Nat} {e : TypeId} {size : Nat} {v : Value} {n : Nat} {xs : List Value} (h : w.ownsRow base e size v n xs) : ∀ k, v.ownBlock = some k → base ≤ k := by
  intro k hk
  rcases h.2 with ⟨rfl, _⟩ | ⟨g, cap, cur, rfl, hb, _⟩
  · cases hk
  · have : g = k := by simpa [Value.ownBlock] using hk
    omega
section
variable {P : Program}
theorem run_append_row (w : World) (base : Nat) (t ty e : TypeId) (i : TypeInfo) (z : Value) (size bytes : Nat) (ht : P.underlying t = some (.slice e)) (hi : P.info? e = some i) (hz : i.zero = some z)
    (hsize : i.size = size) (hby : i.bytes = bytes) (hzs : z.cells.size = size) (hsz : 0 < size)
    (v : Value) (n : Nat) (xs : List Value) (hown : w.ownsRow base e size v n xs) (sv : Value) (m : Nat) (news : List Value) (hsrc : RowAt size w sv m news) (h1 : ∀ u ∈ news, u.oneCell' = true)
    (h63 : n + m ≤ maxLen) (hbytes : (n + m) * bytes ≤ 140737488355328) (hbase : base ≤ w.heap.size) :
    ∃ v' w', (Builtin.append_ #[t, t] ty #[v, sv]).run P w = .ok v' w' ∧ w'.ownsRow base e size v' (n + m) (xs ++ news) ∧ w.grownBy w' v.ownBlock := by
  obtain ⟨hl, hs⟩ := hsrc
  rcases hs with ⟨a, cap, rfl, hnil, rfl⟩ | ⟨b, off, cap, rfl, h0, hn, hc, hx⟩
  · obtain rfl : news = [] := List.eq_nil_of_length_eq_zero (by simpa using hl)
    cases a with
    | none =>
      obtain rfl := hnil rfl
      exact ⟨v, w, run_append_owned_none w base t ty e i size ht hi v n xs hown, by simpa using hown, ⟨rfl, rfl, rfl, Nat.le_refl _, fun _ _ _ => rfl⟩⟩
    | some a =>
      obtain ⟨v', w', hr, h2, h3, _⟩ := run_append_own (P := P) w base t ty e i z size bytes ht hi hz hsize hby hzs hsz v n xs hown a 0 cap [] (by simp) (by simp) (by simp) h63 hbytes hbase
      exact ⟨v', w', hr, h2, h3⟩
  · obtain ⟨v', w', hr, h2, h3, _⟩ := run_append_own (P := P) w base t ty e i z size bytes ht hi hz hsize hby hzs hsz v n xs hown ⟨b, off, none⟩ m cap news hl (fun j u hu => by rw [add_plain]; exact hx j u hu) h1 h63 hbytes hbase
    exact ⟨v', w', hr, h2, h3⟩
theorem wp_append_row {o : Oper} {a : Act} {w : World} {K : Act → World → Prop} {Q : Exit → Act → World → Prop} (s x : Operand) (t : TypeId)
    (ho : o.op = .call { callee := .builtin .append, args := #[s, x], argTypes := #[t, t] })
    (base : Nat) (e : TypeId) (i : TypeInfo) (z : Value) (size bytes : Nat) (ht : P.underlying t = some (.slice e)) (hi : P.info? e = some i) (hz : i.zero = some z)
    (hsize : i.size = size) (hby : i.bytes = bytes) (hzs : z.cells.size = size) (hsz : 0 < size)
    (v : Value) (n : Nat) (xs : List Value) (hs : a.eval s = v) (hown : w.ownsRow base e size v n xs)
    (sv : Value) (m : Nat) (news : List Value) (hx : a.eval x = sv) (hsrc : RowAt size w sv m news) (h1 : ∀ u ∈ news, u.oneCell' = true)
    (h63 : n + m ≤ maxLen) (hbytes : (n + m) * bytes ≤ 140737488355328) (hbase : base ≤ w.heap.size)
    (h : ∀ v' w', w'.ownsRow base e size v' (n + m) (xs ++ news) → w.grownBy w' v.ownBlock → K (a.put o.dst v') w') : o.wp P a w K Q := by
  obtain ⟨v', w', hr, h2, h3⟩ := run_append_row (P := P) w base t o.type e i z size bytes ht hi hz hsize hby hzs hsz v n xs hown sv m news hsrc h1 h63 hbytes hbase
  unfold Oper.wp execOp
  simp only [ho, resolve, invoke, builtin, Sem.run_bind, Sem.run_pure, Result.andThen_ok, List.map_toArray, List.map_cons, List.map_nil, hs, hx, hr]
  exact h v' w' h2 h3
theorem step_append_row {ops : Array Oper} {o : Oper} {a : Act} {w : World} {K : Act → World → Prop} {Q : Exit → Act → World → Prop} {E : Prop} (hgd : o.guard = none) (s x : Operand) (t : TypeId)
    (ho : o.op = .call { callee := .builtin .append, args := #[s, x], argTypes := #[t, t] })
    (base : Nat) (e : TypeId) (i : TypeInfo) (z : Value) (size bytes : Nat) (ht : P.underlying t = some (.slice e)) (hi : P.info? e = some i) (hz : i.zero = some z)
    (hsize : i.size = size) (hby : i.bytes = bytes) (hzs : z.cells.size = size) (hsz : 0 < size)
    (v : Value) (n : Nat) (xs : List Value) (hs : a.eval s = v) (hown : w.ownsRow base e size v n xs)
    (sv : Value) (m : Nat) (news : List Value) (hx : a.eval x = sv) (hsrc : RowAt size w sv m news) (h1 : ∀ u ∈ news, u.oneCell' = true)
    (h63 : n + m ≤ maxLen) (hbytes : (n + m) * bytes ≤ 140737488355328) (hbase : base ≤ w.heap.size)
    (h : ∀ v' w', w'.ownsRow base e size v' (n + m) (xs ++ news) → w.grownBy w' v.ownBlock → K (a.put o.dst v') w') :
    if Region.wanted o (yielded ops a.tmps) = true then Oper.wp P o a w K Q else E := by
  have hw : Region.wanted o (yielded ops a.tmps) = true := by simp [Region.wanted, hgd]
  rw [if_pos hw]
  exact wp_append_row s x t ho base e i z size bytes ht hi hz hsize hby hzs hsz v n xs hs hown sv m news hx hsrc h1 h63 hbytes hbase h
theorem wpList_append_row {ops : Array Oper} {rest : List Oper} {o : Oper} {a : Act} {w : World} {Q : Exit → Act → World → Prop} (hgd : o.guard = none) (s x : Operand) (t : TypeId)
    (ho : o.op = .call { callee := .builtin .append, args := #[s, x], argTypes := #[t, t] })
    (base : Nat) (e : TypeId) (i : TypeInfo) (z : Value) (size bytes : Nat) (ht : P.underlying t = some (.slice e)) (hi : P.info? e = some i) (hz : i.zero = some z)
    (hsize : i.size = size) (hby : i.bytes = bytes) (hzs : z.cells.size = size) (hsz : 0 < size)
    (v : Value) (n : Nat) (xs : List Value) (hs : a.eval s = v) (hown : w.ownsRow base e size v n xs)
    (sv : Value) (m : Nat) (news : List Value) (hx : a.eval x = sv) (hsrc : RowAt size w sv m news) (h1 : ∀ u ∈ news, u.oneCell' = true)
    (h63 : n + m ≤ maxLen) (hbytes : (n + m) * bytes ≤ 140737488355328) (hbase : base ≤ w.heap.size)
    (h : ∀ v' w', w'.ownsRow base e size v' (n + m) (xs ++ news) → w.grownBy w' v.ownBlock → wpList P ops Q rest (a.put o.dst v') w') : wpList P ops Q (o :: rest) a w :=
  wpList_plain hgd fun _ hK => wp_append_row s x t ho base e i z size bytes ht hi hz hsize hby hzs hsz v n xs hs hown sv m news hx hsrc h1 h63 hbytes hbase fun v' w' h2 h3 => hK _ _ (h v' w' h2 h3)
end
end Go.Proofs.YtpfkeohaaeiaaaaDoor
/- 'append(own, s...)' of a string, and 'append(own, make([]T, n)...)', where own is nil or a row of the call's own. -/
namespace Go.Proofs.YtpfkeohaaeiaaaaDoor
open Go.RowKit
section
variable {P : Program}
/-- what an append leaves of an own row, the two arms once for whatever is appended -/
theorem own_after (w : World) (base : Nat) (e : TypeId) (size : Nat) (n m : Nat) (xs news : List Value) (g cap : Nat) (cur : Array Value) (hbg : base ≤ g) (hg : w.heap[g]? = some (.cells cur e (0, 0))) (hcm : cap ≤ maxLen) (hcs : cur.size = cap * size)
    (htake : cur.toList.take (n * size) = xs) (hxl : xs.length = n * size) (hl : news.length = m * size) (hroom : n + m ≤ cap) :
    (w.setRow g (cur.toList.take (n * size) ++ news ++ cur.toList.drop (n * size + news.length)).toArray).ownsRow base e size (.slice (some ⟨g, 0, none⟩) (n + m) cap) (n + m) (xs ++ news) ∧
    w.grownBy (w.setRow g (cur.toList.take (n * size) ++ news ++ cur.toList.drop (n * size + news.length)).toArray) (some g) := by
  have hlen : (xs ++ news).length = (n + m) * size := by rw [List.length_append, hxl, hl, Nat.add_mul]
  refine ⟨⟨hlen, .inr ⟨g, cap, _, rfl, hbg, setRow_heap w g cur _ e _ hg, hroom, hcm, ?_, ?_⟩⟩, ⟨rfl, rfl, rfl, by simp, fun k _ hk => setRow_other w g k _ (fun e => hk (by simp [e]))⟩⟩
  · have hle : n * size + news.length ≤ cap * size := by rw [hl, ← Nat.add_mul]; exact Nat.mul_le_mul_right _ hroom
    simp only [List.size_toArray, List.length_append, List.length_take, List.length_drop, Array.length_toList]
    omega
  · rw [htake, ← hlen]
    exact List.take_left
theorem new_after (w : World) (base : Nat) (e : TypeId) (z : Value) (size : Nat) (n m : Nat) (xs news : List Value) (old : Nat) (row : Option Nat) (hzs : z.cells.size = size) (hxl : xs.length = n * size) (hl : news.length = m * size) (h63 : n + m ≤ maxLen) (hbase : base ≤ w.heap.size) :
    (w.drew.alloc (.cells ((xs ++ news).toArray ++ Builtin.zeroCells z.cells (grownCap w (n + m) old e - (n + m))) e)).ownsRow base e size (.slice (some ⟨w.heap.size, 0, none⟩) (n + m) (grownCap w (n + m) old e)) (n + m) (xs ++ news) ∧
    w.grownBy (w.drew.alloc (.cells ((xs ++ news).toArray ++ Builtin.zeroCells z.cells (grownCap w (n + m) old e - (n + m))) e)) row := by
  have hlen : (xs ++ news).length = (n + m) * size := by rw [List.length_append, hxl, hl, Nat.add_mul]
  have hge := grownCap_ge w (n + m) old e
  have hcm : grownCap w (n + m) old e ≤ maxLen := grownCap_le_maxLen w (n + m) old e h63
  refine ⟨⟨hlen, .inr ⟨w.heap.size, _, _, rfl, hbase, heap_alloc_new w.drew _, hge, hcm, ?_, ?_⟩⟩, ⟨rfl, rfl, rfl, by simp, fun k hk _ => Below.heap_alloc w.drew _ k hk⟩⟩
  · simp only [Array.size_append, List.size_toArray, size_zeroCells, hzs, hlen, ← Nat.add_mul]
    congr 1
    omega
  · simp only [Array.toList_append]
    rw [← hlen]
    exact List.take_left
theorem run_append_src (w : World) (base : Nat) (t tx ty e : TypeId) (i : TypeInfo) (z : Value) (size bytes : Nat) (ht : P.underlying t = some (.slice e)) (hi : P.info? e = some i) (hz : i.zero = some z)
    (hsize : i.size = size) (hby : i.bytes = bytes) (hzs : z.cells.size = size) (hsz : 0 < size)
    (v : Value) (n : Nat) (xs : List Value) (hown : w.ownsRow base e size v n xs) (x : Value) (m : Nat) (news : List Value) (hs : Src P size tx x m news w)
    (h63 : n + m ≤ maxLen) (hbytes : (n + m) * bytes ≤ 140737488355328) (hbase : base ≤ w.heap.size) :
    ∃ v' w', (Builtin.append_ #[t, tx] ty #[v, x]).run P w = .ok v' w' ∧ w'.ownsRow base e size v' (n + m) (xs ++ news) ∧ w.grownBy w' v.ownBlock ∧ ∀ k, v'.ownBlock = some k → v.ownBlock = some k ∨ w.heap.size ≤ k := by
  subst hsize
  subst hby
  have hsmall : n + m ≤ 9223372036854775807 := by simp only [maxLen] at h63; omega
  rcases hown.2 with ⟨rfl, rfl⟩ | ⟨g, cap, cur, rfl, hbg, hg, hnc, hcm, hcs, htake⟩
  · have hx : xs = [] := List.eq_nil_of_length_eq_zero (by simpa using hown.1)
    subst hx
    by_cases hm : m = 0
    · subst hm
      have hn : news = [] := List.eq_nil_of_length_eq_zero (by simpa using hs.newsLen)
      subst hn
      refine ⟨.slice none 0 0, w, ?_, World.ownsRow_nil w base e i.size, ⟨rfl, rfl, rfl, Nat.le_refl _, fun _ _ _ => rfl⟩, fun k hk => .inl hk⟩
      rcases hs.kind with ⟨e', hk⟩ | hk <;> simp [Builtin.append_, run_underlying ht, run_underlying hk, sizeOf, typeInfo, hi, hs.len, hs.cells]
    · have hr := run_append_grow_src (P := P) w t tx ty e i z ht hi hz none 0 0 [] (run_firstCells_none w.drew i.size 0 0 0) x m news hs (by omega) (by omega) (growslice_fits (by omega) hbytes)
      have ha := new_after w base e z i.size 0 m [] news 0 (Value.ownBlock (.slice none 0 0)) hzs (by simp) hs.newsLen h63 hbase
      exact ⟨_, _, hr, ha.1, ha.2, fun k hk => .inr (by cases hk; exact Nat.le_refl _)⟩
  · by_cases hroom : n + m ≤ cap
    · have hfit : n * i.size + news.length ≤ cur.size := by rw [hs.newsLen, hcs, ← Nat.add_mul]; exact Nat.mul_le_mul_right _ hroom
      have hst := run_storeCells_at (P := P) g (n * i.size) e news 0 cur w hg (by simpa using hfit) hs.one
      simp only [Nat.add_zero] at hst
      have ha := own_after w base e i.size n m xs news g cap cur hbg hg hcm hcs htake hown.1 hs.newsLen hroom
      refine ⟨_, _, ?_, ha.1, ha.2, fun k hk => .inl hk⟩
      have hadd : (⟨g, 0, none⟩ : Addr).add (n * i.size) = ⟨g, n * i.size, none⟩ := by rw [add_plain, Nat.zero_add]
      rcases hs.kind with ⟨e', hk⟩ | hk <;> simp [Builtin.append_, run_underlying ht, run_underlying hk, sizeOf, typeInfo, hi, hs.len, hroom, hs.cells, hadd, hst]
    · have holds : ∀ j u, xs[j]? = some u → w.cell? ((⟨g, 0, none⟩ : Addr).add j) = some u := hown.cells (g := g) rfl
      have hold := run_firstCells_some (P := P) w.drew i.size n ⟨g, 0, none⟩ n cap xs hown.1 (by simpa using holds)
      have hr := run_append_grow_src (P := P) w t tx ty e i z ht hi hz (some ⟨g, 0, none⟩) n cap xs hold x m news hs (by omega) (by omega) (growslice_fits (by omega) hbytes)
      have ha := new_after w base e z i.size n m xs news cap (some g) hzs hown.1 hs.newsLen h63 hbase
      exact ⟨_, _, hr, ha.1, ha.2, fun k hk => .inr (by cases hk; exact Nat.le_refl _)⟩
end
end Go.Proofs.YtpfkeohaaeiaaaaDoor
namespace Go.Proofs.YtpfkeohaaeiaaaaDoor
open Go.RowKit
set_option maxRecDepth 100000
/-- only the blocks of F may have turned; new ones may have come -/
structure Chg (F : Nat → Prop) (w w' : World) : Prop where
  os : w'.os = w.os
  tape : w'.tape = w.tape
  output : w'.output = w.output
  size : w.heap.size ≤ w'.heap.size
  block : ∀ k, k < w.heap.size → ¬ F k → w'.heap[k]? = w.heap[k]?
def Ext (F : Nat → Prop) (w w' : World) (k : Nat) : Prop := F k ∨ (w.heap.size ≤ k ∧ k < w'.heap.size)
theorem Chg.refl (F : Nat → Prop) (w : World) : Chg F w w := ⟨rfl, rfl, rfl, Nat.le_refl _, fun _ _ _ => rfl⟩
theorem Chg.trans {F : Nat → Prop} {a b c : World} (h : Chg F a b) (k : Chg (Ext F a b) b c) : Chg F a c :=
  ⟨k.os.trans h.os, k.tape.trans h.tape, k.output.trans h.output, Nat.le_trans h.size k.size, fun i hi hf => (k.block i (Nat.lt_of_lt_of_le hi h.size) (fun e => e.elim hf (fun e => Nat.not_le.2 hi e.1))).trans (h.block i hi hf)⟩
theorem Chg.trans1 {F : Nat → Prop} {a b c : World} (h : Chg F a b) (k : Chg F b c) : Chg F a c :=
  ⟨k.os.trans h.os, k.tape.trans h.tape, k.output.trans h.output, Nat.le_trans h.size k.size, fun i hi hf => (k.block i (Nat.lt_of_lt_of_le hi h.size) hf).trans (h.block i hi hf)⟩
theorem Chg.mono {F G : Nat → Prop} {a b : World} (h : Chg F a b) (hs : ∀ k, F k → G k) : Chg G a b := ⟨h.os, h.tape, h.output, h.size, fun k hk hg => h.block k hk (fun e => hg (hs k e))⟩
theorem Chg.grown {w w' : World} {b : Nat} {F : Nat → Prop} (h : w.grownBy w' (some b)) (hF : F b) : Chg F w w' := ⟨h.os, h.tape, h.output, h.size, fun k hk hn => h.block k hk (fun e => hn (by cases e; exact hF))⟩
theorem Chg.grownO {w w' : World} {r : Option Nat} {F : Nat → Prop} (h : w.grownBy w' r) (hF : ∀ k, r = some k → F k) : Chg F w w' := ⟨h.os, h.tape, h.output, h.size, fun k hk hn => h.block k hk (fun e => hn (hF k e.symm))⟩
theorem Chg.drew {F : Nat → Prop} {a b : World} (h : Chg F a b) : Chg F a b.drew := ⟨h.os, h.tape, h.output, h.size, h.block⟩
theorem Chg.below {F : Nat → Prop} {a b : World} (h : Below a.heap.size a b) : Chg F a b := ⟨h.os, h.tape, h.output, h.size, fun k hk _ => h.block k hk⟩
theorem Chg.toBelow {F : Nat → Prop} {W a b : World} (hB : Below W.heap.size W a) (h : Chg F a b) (hF : ∀ k, F k → W.heap.size ≤ k) : Below W.heap.size W b :=
  ⟨h.os.trans hB.os, h.tape.trans hB.tape, h.output.trans hB.output, Nat.le_trans hB.size h.size, fun k hk => (h.block k (Nat.lt_of_lt_of_le hk hB.size) (fun e => Nat.not_le.2 hk (hF k e))).trans (hB.block k hk)⟩
theorem Chg.heap {F : Nat → Prop} {a b : World} (h : Chg F a b) {k : Nat} {o : Obj} (hk : a.heap[k]? = some o) (hn : ¬ F k) : b.heap[k]? = some o := (h.block k (heap_lt hk) hn).trans hk
/-- a row of the call's own is there again where its block has stayed -/
theorem own_same {w w' : World} {base : Nat} {e : TypeId} {size : Nat} {v : Value} {n : Nat} {xs : List Value} (h : w.ownsRow base e size v n xs) (hs : ∀ k, v.ownBlock = some k → w'.heap[k]? = w.heap[k]?) : w'.ownsRow base e size v n xs := by
  obtain ⟨hl, h⟩ := h
  refine ⟨hl, ?_⟩
  rcases h with h | ⟨g, cap, cur, rfl, h2, h3, h4⟩
  · exact .inl h
  · exact .inr ⟨g, cap, cur, rfl, h2, (hs g rfl).trans h3, h4⟩
theorem own_lt {w : World} {base : Nat} {e : TypeId} {size : Nat} {v : Value} {n : Nat} {xs : List Value} (h : w.ownsRow base e size v n xs) : ∀ k, v.ownBlock = some k → k < w.heap.size := by
  intro k hk
  rcases h.2 with ⟨rfl, _⟩ | ⟨g, cap, cur, rfl, hb, hg, _⟩
  · cases hk
  · have : g = k := by simpa [Value.ownBlock] using hk
    subst this; exact heap_lt hg
structure Bf where
  lim : Int
  base : Int
  data : List Int
  st : List Int
  sent : Int
  fin : Bool
  ed : Int
def Bf.cells (B : Bf) (vd vs : Value) : Array Value := #[.int .i64 B.lim, .int .i64 B.base, vd, vs, .int .i64 B.sent, .bool B.fin, .int .u8 B.ed]
structure Rep (w : World) (b : Nat) (F : Nat → Prop) (B : Bf) (vd vs : Value) : Prop where
  obj : w.heap[b]? = some (.cells (B.cells vd vs) 63 (0, 0))
  rd : w.ownsRow 0 5 1 vd B.data.length (B.data.map (.int .u8))
  rs : w.ownsRow 0 61 1 vs B.st.length (B.st.map (.int .u8))
  fb : F b
  fd : ∀ k, vd.ownBlock = some k → F k ∧ k ≠ b
  fs : ∀ k, vs.ownBlock = some k → F k ∧ k ≠ b ∧ vd.ownBlock ≠ some k
structure Facts (w : World) (b : Nat) (B : Bf) (vd vs : Value) : Prop where
  c0 : w.cell? ⟨b, 0, none⟩ = some (.int .i64 B.lim)
  c1 : w.cell? ⟨b, 1, none⟩ = some (.int .i64 B.base)
  c2 : w.cell? ⟨b, 2, none⟩ = some vd
  c3 : w.cell? ⟨b, 3, none⟩ = some vs
  c4 : w.cell? ⟨b, 4, none⟩ = some (.int .i64 B.sent)
  c5 : w.cell? ⟨b, 5, none⟩ = some (.bool B.fin)
  c6 : w.cell? ⟨b, 6, none⟩ = some (.int .u8 B.ed)
  fr : ∀ j, w.frozen? ⟨b, j, none⟩ = false
theorem Rep.facts {w : World} {b : Nat} {F : Nat → Prop} {B : Bf} {vd vs : Value} (h : Rep w b F B vd vs) : Facts w b B vd vs :=
  ⟨cell_whole h.obj 0, cell_whole h.obj 1, cell_whole h.obj 2, cell_whole h.obj 3, cell_whole h.obj 4, cell_whole h.obj 5, cell_whole h.obj 6, frozen_whole h.obj⟩
theorem own_form {w : World} {base : Nat} {e : TypeId} {size : Nat} {v : Value} {n : Nat} {xs : List Value} (h : w.ownsRow base e size v n xs) : ∃ a cap, v = .slice a n cap ∧ n ≤ cap := by
  rcases h.2 with ⟨rfl, rfl⟩ | ⟨g, cap, cur, rfl, hb, hg, hn, _⟩
  · exact ⟨none, 0, rfl, Nat.le_refl _⟩
  · exact ⟨_, cap, rfl, hn⟩
/-- the whole thing lies elsewhere: it stays -/
theorem Rep.stay {w w' : World} {b : Nat} {F : Nat → Prop} {B : Bf} {vd vs : Value} (h : Rep w b F B vd vs) (hs : ∀ k, F k → k < w.heap.size → w'.heap[k]? = w.heap[k]?) : Rep w' b F B vd vs :=
  ⟨(hs b h.fb (heap_lt h.obj)).trans h.obj, own_same h.rd (fun k hk => hs k (h.fd k hk).1 (own_lt h.rd k hk)), own_same h.rs (fun k hk => hs k (h.fs k hk).1 (own_lt h.rs k hk)), h.fb, h.fd, h.fs⟩
theorem Rep.below {w w' : World} {b : Nat} {F : Nat → Prop} {B : Bf} {vd vs : Value} (h : Rep w b F B vd vs) (hb : Below w.heap.size w w') : Rep w' b F B vd vs := h.stay (fun k _ hk => hb.block k hk)
theorem Rep.chg {w w' : World} {b : Nat} {F G : Nat → Prop} {B : Bf} {vd vs : Value} (h : Rep w b F B vd vs) (hc : Chg G w w') (hd : ∀ k, F k → ¬ G k) : Rep w' b F B vd vs := h.stay (fun k hf hk => hc.block k hk (hd k hf))
theorem Rep.drew {w : World} {b : Nat} {F : Nat → Prop} {B : Bf} {vd vs : Value} (h : Rep w b F B vd vs) : Rep w.drew b F B vd vs := h.stay (fun _ _ _ => rfl)
theorem Rep.drewN {w : World} {b : Nat} {F : Nat → Prop} {B : Bf} {vd vs : Value} (h : Rep w b F B vd vs) (n : Nat) : Rep (w.drewN n) b F B vd vs := h.stay (fun _ _ _ => rfl)
theorem Rep.ext {w : World} {b : Nat} {F G : Nat → Prop} {B : Bf} {vd vs : Value} (h : Rep w b F B vd vs) (hs : ∀ k, F k → G k) : Rep w b G B vd vs :=
  ⟨h.obj, h.rd, h.rs, hs _ h.fb, fun k hk => ⟨hs _ (h.fd k hk).1, (h.fd k hk).2⟩, fun k hk => ⟨hs _ (h.fs k hk).1, (h.fs k hk).2⟩⟩
/-- a field of the block itself (no row) is set -/
theorem Rep.set {w : World} {b : Nat} {F : Nat → Prop} {B B' : Bf} {vd vs : Value} (h : Rep w b F B vd vs) (i : Nat) (v : Value) (e : (B.cells vd vs).setIfInBounds i v = B'.cells vd vs) (hd : B'.data = B.data) (hs : B'.st = B.st) : Rep (w.setCell ⟨b, i, none⟩ v) b F B' vd vs :=
  ⟨by rw [heap_set v h.obj, e], by rw [hd]; exact own_same h.rd (fun k hk => heap_setCell_other w _ k v (h.fd k hk).2), by rw [hs]; exact own_same h.rs (fun k hk => heap_setCell_other w _ k v (h.fs k hk).2.1), h.fb, h.fd, h.fs⟩
theorem Chg.set {w w' : World} {F : Nat → Prop} (h : Chg F w w') (b i : Nat) (v : Value) (hF : F b) : Chg F w (w'.setCell ⟨b, i, none⟩ v) := h.trans1 (Chg.grown (grown_set (grown_refl _ _) v) hF)
/-- a byte of the states is set -/
def Move (b : Nat) (F : Nat → Prop) (B : Bf) (w w' : World) : Prop := Chg F w w' ∧ ∃ vd vs, Rep w' b (Ext F w w') B vd vs
def Inv (w : World) (b : Nat) (F : Nat → Prop) (B : Bf) : Prop := ∃ vd vs, Rep w b F B vd vs
theorem Inv.below {w w' : World} {b : Nat} {F : Nat → Prop} {B : Bf} (h : Inv w b F B) (hb : Below w.heap.size w w') : Inv w' b F B := by obtain ⟨vd, vs, h⟩ := h; exact ⟨vd, vs, h.below hb⟩
theorem Inv.chg {w w' : World} {b : Nat} {F G : Nat → Prop} {B : Bf} (h : Inv w b F B) (hc : Chg G w w') (hd : ∀ k, F k → ¬ G k) : Inv w' b F B := by obtain ⟨vd, vs, h⟩ := h; exact ⟨vd, vs, h.chg hc hd⟩
theorem Inv.drewN {w : World} {b : Nat} {F : Nat → Prop} {B : Bf} (h : Inv w b F B) (n : Nat) : Inv (w.drewN n) b F B := by obtain ⟨vd, vs, h⟩ := h; exact ⟨vd, vs, h.drewN n⟩
/-- what always holds of a buffer -/
structure Good (B : Bf) : Prop where
  l1 : 1 ≤ B.lim
  l2 : B.lim ≤ 8192
  b0 : 0 ≤ B.base
  b1 : B.base ≤ 1125899906842624
  len : B.st.length = B.data.length
  cap : (B.data.length : Int) ≤ B.lim
  s0 : B.base ≤ B.sent
  s1 : B.sent ≤ B.base + B.data.length
def newB (n : Int) : Bf := ⟨n, 0, [], [], 0, false, 0⟩
def goodLim (n : Int) : Bool := decide (1 ≤ n) && decide (n ≤ 8192)
theorem new_ok (n : Int) (w : World) (h1 : 1 ≤ n) (h2 : n ≤ 8192) :
    Calls Tryd.prog 7 #[.int .i64 n] w fun e w' => e = .returned (.tuple #[.pointer (some ⟨w.heap.size, 0, none⟩), .int .i64 0]) ∧ w' = w.alloc (.cells ((newB n).cells (.slice none 0 0) (.slice none 0 0)) 63) := by
  go_enter Tryd.func7, Tryd.ntmps7
  go_wp2
  go_returns
  exact ⟨rfl, rfl⟩
theorem new_no (n : Int) (w : World) (h : ¬ (1 ≤ n ∧ n ≤ 8192)) :
    Calls Tryd.prog 7 #[.int .i64 n] w fun e w' => e = .returned (.tuple #[.pointer none, .int .i64 2]) ∧ w' = w := by
  by_cases h1 : 1 ≤ n
  all_goals
    have h2 : n < 1 ∨ 8192 < n := by omega
    first | have h2 : n < 1 := by omega | have h2 : 8192 < n := by omega
    go_enter Tryd.func7, Tryd.ntmps7
    go_wp2
    go_returns
    exact ⟨rfl, rfl⟩
theorem new_rep (n : Int) (w : World) : Rep (w.alloc (.cells ((newB n).cells (.slice none 0 0) (.slice none 0 0)) 63)) w.heap.size (fun k => k = w.heap.size) (newB n) (.slice none 0 0) (.slice none 0 0) :=
  ⟨heap_alloc_new w _, World.ownsRow_nil _ _ _ _, World.ownsRow_nil _ _ _ _, rfl, (fun k hk => by cases hk), (fun k hk => by cases hk)⟩
def spaceF (B : Bf) : Int := if B.fin then 0 else B.lim - B.data.length
theorem space_any (b : Nat) (F : Nat → Prop) (B : Bf) (w : World) (h : Inv w b F B) (hg : Good B) :
    Calls Tryd.prog 27 #[.pointer (some ⟨b, 0, none⟩)] w fun e w' => e = .returned (.int .i64 (spaceF B)) ∧ ∃ m, w' = w.drewN m := by
  obtain ⟨vd, vs, h⟩ := h
  obtain ⟨a, cap, rfl, hn⟩ := own_form h.rd
  obtain ⟨c0, c1, c2, c3, c4, c5, c6, fr⟩ := h.facts
  obtain ⟨l1, l2, b0, b1, len, cp, s0, s1⟩ := hg
  have hw : IntKind.i64.wrap (B.lim - (B.data.length : Int)) = B.lim - (B.data.length : Int) := IntWalk.i64_in _ (by omega)
  cases hf : B.fin
  · have E := Lib.hid (show spaceF B = B.lim - B.data.length from by unfold spaceF; rw [hf]; rfl)
    rw [hf] at c5
    clear hf
    go_enter Tryd.func27, Tryd.ntmps27
    go_wp2
    go_quiet (fail)
    go_wp2
    go_ret
    exact ⟨by rw [E.out]; try rfl, _, rfl⟩
  · have E := Lib.hid (show spaceF B = 0 from by unfold spaceF; rw [hf]; rfl)
    rw [hf] at c5
    clear hf
    go_enter Tryd.func27, Tryd.ntmps27
    go_wp2
    go_ret
    exact ⟨by rw [E.out]; try rfl, 0, rfl⟩
theorem space_nil (w : World) : Calls Tryd.prog 27 #[.pointer none] w fun e w' => e = .returned (.int .i64 0) ∧ ∃ m, w' = w.drewN m := by
  go_enter Tryd.func27, Tryd.ntmps27
  go_wp2
  go_ret
  exact ⟨rfl, 0, rfl⟩
def writtenF (B : Bf) : Int := B.base + B.data.length
theorem written_any (b : Nat) (F : Nat → Prop) (B : Bf) (w : World) (h : Inv w b F B) (hg : Good B) :
    Calls Tryd.prog 30 #[.pointer (some ⟨b, 0, none⟩)] w fun e w' => e = .returned (.int .i64 (writtenF B)) ∧ ∃ m, w' = w.drewN m := by
  obtain ⟨vd, vs, h⟩ := h
  obtain ⟨a, cap, rfl, hn⟩ := own_form h.rd
  obtain ⟨c0, c1, c2, c3, c4, c5, c6, fr⟩ := h.facts
  obtain ⟨l1, l2, b0, b1, len, cp, s0, s1⟩ := hg
  have hw : IntKind.i64.wrap (B.base + (B.data.length : Int)) = B.base + (B.data.length : Int) := IntWalk.i64_in _ (by omega)
  go_enter Tryd.func30, Tryd.ntmps30
  go_wp2
  go_quiet (fail)
  go_wp2
  go_ret
  exact ⟨rfl, _, rfl⟩
theorem sent_any (b : Nat) (F : Nat → Prop) (B : Bf) (w : World) (h : Inv w b F B) :
    Calls Tryd.prog 13 #[.pointer (some ⟨b, 0, none⟩)] w fun e w' => e = .returned (.int .i64 B.sent) ∧ w' = w := by
  obtain ⟨vd, vs, h⟩ := h
  obtain ⟨c0, c1, c2, c3, c4, c5, c6, fr⟩ := h.facts
  go_enter Tryd.func13, Tryd.ntmps13
  go_wp2
  go_ret
  exact ⟨rfl, rfl⟩
theorem finish_any (b : Nat) (F : Nat → Prop) (B : Bf) (w : World) (h : Inv w b F B) :
    Calls Tryd.prog 12 #[.pointer (some ⟨b, 0, none⟩)] w fun e w' => e = .returned (.tuple #[]) ∧ Chg F w w' ∧ Inv w' b F { B with fin := true } ∧ w'.heap.size = w.heap.size := by
  obtain ⟨vd, vs, h⟩ := h
  obtain ⟨c0, c1, c2, c3, c4, c5, c6, fr⟩ := h.facts
  have R := Lib.hid h
  go_enter Tryd.func12, Tryd.ntmps12
  go_wp2
  go_returns
  exact ⟨rfl, (Chg.refl F w).set b 5 _ R.out.fb, ⟨vd, vs, R.out.set 5 _ rfl rfl rfl⟩, by simp⟩
def openF (B : Bf) : Bool := B.fin && (decide (B.ed = 0) || decide (B.ed = 2))
theorem open_any (b : Nat) (F : Nat → Prop) (B : Bf) (w : World) (h : Inv w b F B) :
    Calls Tryd.prog 31 #[.pointer (some ⟨b, 0, none⟩)] w fun e w' => e = .returned (.bool (openF B)) ∧ w' = w := by
  obtain ⟨vd, vs, h⟩ := h
  obtain ⟨c0, c1, c2, c3, c4, c5, c6, fr⟩ := h.facts
  cases hf : B.fin
  · have E := Lib.hid (show openF B = false from by unfold openF; rw [hf]; rfl)
    rw [hf] at c5
    clear hf
    go_enter Tryd.func31, Tryd.ntmps31
    go_wp2
    go_ret
    exact ⟨by rw [E.out]; try rfl, rfl⟩
  · rw [hf] at c5
    by_cases h1 : B.ed = 0
    · have E := Lib.hid (show openF B = true from by unfold openF; rw [hf, h1]; rfl)
      rw [h1] at c6
      clear hf
      go_enter Tryd.func31, Tryd.ntmps31
      go_wp2
      go_ret
      exact ⟨by rw [E.out]; try rfl, rfl⟩
    · have E := Lib.hid (show openF B = decide (B.ed = 2) from by unfold openF; rw [hf]; simp [h1])
      clear hf
      go_enter Tryd.func31, Tryd.ntmps31
      go_wp2
      go_ret
      exact ⟨by rw [E.out]; try rfl, rfl⟩
def doneF (B : Bf) : Bool := B.fin && decide (B.data.length = 0) && decide (B.ed = 3)
end Go.Proofs.YtpfkeohaaeiaaaaDoor
