/- Texts Rtd of this claim, one behind the other. -/
import Derived.Test.YtpfkeohaaeiaaaaGreatDoorRc18
import Derived.Deep.RegionWith
import Derived.Test.YtpfkeohaaeiaaaaGreatDoorRc16
/- Reassembly: Read. -/
namespace Go.Proofs.YtpfkeohaaeiaaaaGreatDoor.rea
open Go.RowKit Go.Lib
set_option maxRecDepth 100000
def slotHH (s n x y i : Nat) : Option Nat := if i < n then some (s + i) else if i = n then some x else if i = n + 1 then some y else none
theorem slotHH_is {s n x y i d : Nat} (h : slotHH s n x y i = some d) : (i < n ∧ d = s + i) ∨ (i = n ∧ d = x) ∨ (i = n + 1 ∧ d = y) := by
  unfold slotHH at h
  split at h
  · cases h; exact .inl ⟨‹_›, rfl⟩
  · split at h
    · cases h; exact .inr (.inl ⟨‹_›, rfl⟩)
    · split at h
      · cases h; exact .inr (.inr ⟨‹_›, rfl⟩)
      · cases h
set_option maxRecDepth 100000 in
set_option maxHeartbeats 4000000 in
theorem Read_any (b g1 g2 : Nat) (R : Rb) (n : Nat) (w : World) (h : RbAt w b g1 g2 R) (_hn : n ≤ 1000) (ha : R.at_ ≤ 1125899906842624) (m : Nat) (hm : m = min n (readyF R.hs)) :
    Calls Tryz.prog 58 #[.pointer (some ⟨b, 0, none⟩), .int .i64 n] w fun e w' => e = .returned (.tuple #[.string (strOfNums (R.bs.take m)), .bool (R.kn && decide (((R.at_ + m : Nat) : Int) = R.fin))]) ∧ Tr b g1 g2 w w' ∧ RbAt w' b g1 g2 { R with at_ := R.at_ + m, bs := takeB m R.bs, hs := takeH m R.hs } := by
  have hr := readyF_le R.hs
  have hl := h.hl
  have hsm := h.sm
  have H := Lib.hid h
  have TK := Lib.hid (fun wx (hx : RbAt wx b g1 g2 R) => take_any b g1 g2 R m wx hx (by omega) ha)
  have RD := Lib.hid (fun wx (hx : RbAt wx b g1 g2 R) => ready_any b g1 g2 R wx hx)
  generalize readyF R.hs = r at *
  have m3 : (if r < n then (r : Int) else (n : Int)) = (m : Int) := by split <;> omega
  have m5 : ((m : Int) < 0) = False := eq_false (by omega)
  clear hm
  clear h
  generalize strOfNums (R.bs.take m) = S at TK ⊢
  go_enter Tryz.func58, Tryz.ntmps58
  go_wp2_with fail
  go_region_with (first
    | (go_at_call 83; refine (RD.out _ (by exact H.out.below (Below.refl _ w).drew)).mono ?_; rintro e w1 ⟨rfl, rfl⟩)
    | (go_at_call 82; refine (TK.out _ (by exact H.out.below (Below.refl _ w).drew)).mono ?_; rintro e w2 ⟨rfl, T2, H2⟩))
  have H3 := Lib.hid (And.intro T2 H2)
  have q0 : w2.cell? ⟨b, 0, none⟩ = some (.int .i64 ((R.at_ + m : Nat) : Int)) := H2.cells.1
  have q4 : w2.cell? ⟨b, 4, none⟩ = some (.int .i64 R.fin) := H2.cells.2.2.2.2.1
  have q5 : w2.cell? ⟨b, 5, none⟩ = some (.bool R.kn) := H2.cells.2.2.2.2.2
  clear T2 H2 H TK RD m3 m5
  obtain ⟨A, hA⟩ : ∃ A : Int, ((R.at_ + m : Nat) : Int) = A := ⟨_, rfl⟩
  have HA := Lib.hid hA
  rw [hA] at q0
  clear hA
  have hT : Hid (Tr b g1 g2 w w2 ∧ RbAt w2 b g1 g2 { R with at_ := R.at_ + m, bs := takeB m R.bs, hs := takeH m R.hs }) := Lib.hid ⟨(Tr.refl b g1 g2 w).drew.trans H3.out.1, H3.out.2⟩
  clear H3
  have OLD := Lib.hid (fun (w1 : World) (hb : Below w2.heap.size w2 w1) (p : Addr) (v : Value) (h : w2.cell? p = some v) => (hb.cell (p := p) (World.block_lt_of_cell? _ _ h)).trans h)
  have hK : ∀ n', Hid (Tr b g1 g2 w (w2.drewN n') ∧ RbAt (w2.drewN n') b g1 g2 { R with at_ := R.at_ + m, bs := takeB m R.bs, hs := takeH m R.hs }) := fun n' => Lib.hid ⟨hT.out.1.below (belowN (Below.refl _ _) n'), hT.out.2.below (belowN (Below.refl _ _) n')⟩
  obtain ⟨bl, hbl⟩ : ∃ bl : Bool, (R.kn && decide (((R.at_ + m : Nat) : Int) = R.fin)) = bl := ⟨_, rfl⟩
  have HBL := Lib.hid hbl
  rw [HA.out] at hbl
  cases hkn : R.kn
  · rw [hkn] at q5 hbl
    simp only [Bool.false_and] at hbl
    subst hbl
    have HKN := Lib.hid hkn
    clear hkn
    go_wp2_with fail
    refine grow_region 19 (slotHH 20 17 4 5) (fun jj => (#[.string S, .pointer (some ⟨b, 0, none⟩), .pointer (some ⟨b, 0, none⟩), .pointer (some ⟨b, 5, none⟩), .bool false, .bool false, undef, undef, undef, undef, undef, undef, undef, undef, undef, undef, .bool false, .string S, .bool false] : Array Value)[jj]?.getD undef) (tm := #[.pointer (some ⟨b, 0, none⟩), .int .i64 n, undef, undef, .string S, .bool false, .string S, .pointer (some ⟨b, 0, none⟩), .bool false, .pointer (some ⟨b, 0, none⟩), .pointer (some ⟨b, 0, none⟩), .pointer (some ⟨b, 0, none⟩), .int .i64 n, .pointer (some ⟨b, 0, none⟩), .pointer (some ⟨b, 0, none⟩), .pointer (some ⟨b, 0, none⟩), .int .i64 r, .int .i64 m, .int .i64 m, .string S, .string S, .pointer (some ⟨b, 0, none⟩), .pointer (some ⟨b, 0, none⟩), .pointer (some ⟨b, 5, none⟩), .bool false, .bool false, undef, undef, undef, undef, undef, undef, undef, undef, undef, undef, .bool false]) rfl (by kernel_rfl) rfl (fun i d _ h => by have := slotHH_is h; show d < 37; omega) (fun i j d _ _ h1 h2 => by have := slotHH_is h1; have := slotHH_is h2; omega) ?_ (by kernel_rfl) ?_
    · rintro j o hj ho a w1 hb ⟨hold, hdep⟩
      have r0 := OLD.out _ hb _ _ q0
      have r4 := OLD.out _ hb _ _ q4
      have r5 := OLD.out _ hb _ _ q5
      have o0 := hold 0 (fun i hi h => by have := slotHH_is h; omega)
      have o6 := hold 6 (fun i hi h => by have := slotHH_is h; omega)
      simp at o0 o6
      have hjj : j = 0 ∨ j = 1 ∨ j = 2 ∨ j = 3 ∨ j = 4 ∨ j = 5 ∨ j = 6 ∨ j = 7 ∨ j = 8 ∨ j = 9 ∨ j = 10 ∨ j = 11 ∨ j = 12 ∨ j = 13 ∨ j = 14 ∨ j = 15 ∨ j = 16 ∨ j = 17 ∨ j = 18 := by omega
      rcases hjj with rfl | rfl | rfl | rfl | rfl | rfl | rfl | rfl | rfl | rfl | rfl | rfl | rfl | rfl | rfl | rfl | rfl | rfl | rfl
      all_goals (cases ho; simp [Region.binds, slotHH] at hdep; refine ⟨rfl, rfl, ?_⟩)
      · first | (refine .inl ⟨(by first | rfl | (simp [Region.wanted, yielded, hdep]; done)), fun K hK => ?_⟩; unfold Oper.wp; simp [execOp, Oper.upon, go_sem, Act.eval, o6]; exact hK _ (Below.refl _ _)) | (refine .inl ⟨rfl, fun K hK => ?_⟩; unfold Oper.wp; simp [execOp, Oper.upon, go_sem, Act.eval, o0, o6, r0, r4, r5]; exact hK _ (Below.refl _ _))
      · first | (refine .inl ⟨(by first | rfl | (simp [Region.wanted, yielded, hdep]; done)), fun K hK => ?_⟩; unfold Oper.wp; simp [execOp, Oper.upon, go_sem, Act.eval, o0]; exact hK _ (Below.refl _ _)) | (refine .inl ⟨rfl, fun K hK => ?_⟩; unfold Oper.wp; simp [execOp, Oper.upon, go_sem, Act.eval, o0, o6, r0, r4, r5]; exact hK _ (Below.refl _ _))
      · first | (refine .inl ⟨(by first | rfl | (simp [Region.wanted, yielded, hdep]; done)), fun K hK => ?_⟩; unfold Oper.wp; simp [execOp, Oper.upon, go_sem, Act.eval, hdep]; exact hK _ (Below.refl _ _)) | (refine .inl ⟨rfl, fun K hK => ?_⟩; unfold Oper.wp; simp [execOp, Oper.upon, go_sem, Act.eval, o0, o6, r0, r4, r5]; exact hK _ (Below.refl _ _))
      · first | (refine .inl ⟨(by first | rfl | (simp [Region.wanted, yielded, hdep]; done)), fun K hK => ?_⟩; unfold Oper.wp; simp [execOp, Oper.upon, go_sem, Act.eval, hdep]; exact hK _ (Below.refl _ _)) | (refine .inl ⟨rfl, fun K hK => ?_⟩; unfold Oper.wp; simp [execOp, Oper.upon, go_sem, Act.eval, o0, o6, r0, r4, r5]; exact hK _ (Below.refl _ _))
      · first | (refine .inl ⟨(by first | rfl | (simp [Region.wanted, yielded, hdep]; done)), fun K hK => ?_⟩; unfold Oper.wp; simp [execOp, Oper.upon, go_sem, Act.eval, hdep, r5]; exact hK _ (Below.refl _ _)) | (refine .inl ⟨rfl, fun K hK => ?_⟩; unfold Oper.wp; simp [execOp, Oper.upon, go_sem, Act.eval, o0, o6, r0, r4, r5]; exact hK _ (Below.refl _ _))
      · first | (refine .inl ⟨(by first | rfl | (simp [Region.wanted, yielded, hdep]; done)), fun K hK => ?_⟩; unfold Oper.wp; simp [execOp, Oper.upon, go_sem, Act.eval, hdep]; exact hK _ (Below.refl _ _)) | (refine .inl ⟨rfl, fun K hK => ?_⟩; unfold Oper.wp; simp [execOp, Oper.upon, go_sem, Act.eval, o0, o6, r0, r4, r5]; exact hK _ (Below.refl _ _))
      · exact .inr ⟨(by simp [Region.wanted, yielded, hdep]; done), rfl⟩
      · exact .inr ⟨(by simp [Region.wanted, yielded, hdep]; done), rfl⟩
      · exact .inr ⟨(by simp [Region.wanted, yielded, hdep]; done), rfl⟩
      · exact .inr ⟨(by simp [Region.wanted, yielded, hdep]; done), rfl⟩
      · exact .inr ⟨(by simp [Region.wanted, yielded, hdep]; done), rfl⟩
      · exact .inr ⟨(by simp [Region.wanted, yielded, hdep]; done), rfl⟩
      · exact .inr ⟨(by simp [Region.wanted, yielded, hdep]; done), rfl⟩
      · exact .inr ⟨(by simp [Region.wanted, yielded, hdep]; done), rfl⟩
      · exact .inr ⟨(by simp [Region.wanted, yielded, hdep]; done), rfl⟩
      · exact .inr ⟨(by simp [Region.wanted, yielded, hdep]; done), rfl⟩
      · first | (refine .inl ⟨(by first | rfl | (simp [Region.wanted, yielded, hdep]; done)), fun K hK => ?_⟩; unfold Oper.wp; simp [execOp, Oper.upon, go_sem, Act.eval, hdep]; exact hK _ (Below.refl _ _)) | (refine .inl ⟨rfl, fun K hK => ?_⟩; unfold Oper.wp; simp [execOp, Oper.upon, go_sem, Act.eval, o0, o6, r0, r4, r5]; exact hK _ (Below.refl _ _))
      · first | (refine .inl ⟨(by first | rfl | (simp [Region.wanted, yielded, hdep]; done)), fun K hK => ?_⟩; unfold Oper.wp; simp [execOp, Oper.upon, go_sem, Act.eval, hdep]; exact hK _ (Below.refl _ _)) | (refine .inl ⟨rfl, fun K hK => ?_⟩; unfold Oper.wp; simp [execOp, Oper.upon, go_sem, Act.eval, o0, o6, r0, r4, r5]; exact hK _ (Below.refl _ _))
      · first | (refine .inl ⟨(by first | rfl | (simp [Region.wanted, yielded, hdep]; done)), fun K hK => ?_⟩; unfold Oper.wp; simp [execOp, Oper.upon, go_sem, Act.eval, hdep]; exact hK _ (Below.refl _ _)) | (refine .inl ⟨rfl, fun K hK => ?_⟩; unfold Oper.wp; simp [execOp, Oper.upon, go_sem, Act.eval, o0, o6, r0, r4, r5]; exact hK _ (Below.refl _ _))
    rintro w3 hb3
    have hX := (And.intro (hT.out.1.below hb3) (hT.out.2.below hb3) : Tr b g1 g2 w w3 ∧ RbAt w3 b g1 g2 { R with at_ := R.at_ + m, bs := takeB m R.bs, hs := takeH m R.hs })
    go_wp2
    go_returns
    exact ⟨by rw [HBL.out]; rfl, hX⟩
  · rw [hkn] at q5 hbl
    simp only [Bool.true_and] at hbl
    have HKN := Lib.hid hkn
    clear hkn
    by_cases hAf : A = R.fin
    · have d0 : (A == R.fin) = true := beq_iff_eq.2 hAf
      rw [decide_eq_true hAf] at hbl
      subst hbl
      clear hAf
      go_wp2_with fail
      refine grow_region 19 (slotHH 20 17 4 5) (fun jj => (#[.string S, .pointer (some ⟨b, 0, none⟩), .pointer (some ⟨b, 0, none⟩), .pointer (some ⟨b, 5, none⟩), .bool true, .bool true, .pointer (some ⟨b, 0, none⟩), .pointer (some ⟨b, 0, none⟩), .pointer (some ⟨b, 0, none⟩), .pointer (some ⟨b, 0, none⟩), .int .i64 A, .pointer (some ⟨b, 0, none⟩), .pointer (some ⟨b, 0, none⟩), .pointer (some ⟨b, 4, none⟩), .int .i64 R.fin, .bool true, .bool true, .string S, .bool true] : Array Value)[jj]?.getD undef) (tm := #[.pointer (some ⟨b, 0, none⟩), .int .i64 n, undef, undef, .string S, .bool true, .string S, .pointer (some ⟨b, 0, none⟩), .bool false, .pointer (some ⟨b, 0, none⟩), .pointer (some ⟨b, 0, none⟩), .pointer (some ⟨b, 0, none⟩), .int .i64 n, .pointer (some ⟨b, 0, none⟩), .pointer (some ⟨b, 0, none⟩), .pointer (some ⟨b, 0, none⟩), .int .i64 r, .int .i64 m, .int .i64 m, .string S, .string S, .pointer (some ⟨b, 0, none⟩), .pointer (some ⟨b, 0, none⟩), .pointer (some ⟨b, 5, none⟩), .bool true, .bool true, .pointer (some ⟨b, 0, none⟩), .pointer (some ⟨b, 0, none⟩), .pointer (some ⟨b, 0, none⟩), .pointer (some ⟨b, 0, none⟩), .int .i64 A, .pointer (some ⟨b, 0, none⟩), .pointer (some ⟨b, 0, none⟩), .pointer (some ⟨b, 4, none⟩), .int .i64 R.fin, .bool true, .bool true]) rfl (by kernel_rfl) rfl (fun i d _ h => by have := slotHH_is h; show d < 37; omega) (fun i j d _ _ h1 h2 => by have := slotHH_is h1; have := slotHH_is h2; omega) ?_ (by kernel_rfl) ?_
      · rintro j o hj ho a w1 hb ⟨hold, hdep⟩
        have r0 := OLD.out _ hb _ _ q0
        have r4 := OLD.out _ hb _ _ q4
        have r5 := OLD.out _ hb _ _ q5
        have o0 := hold 0 (fun i hi h => by have := slotHH_is h; omega)
        have o6 := hold 6 (fun i hi h => by have := slotHH_is h; omega)
        simp at o0 o6
        have hjj : j = 0 ∨ j = 1 ∨ j = 2 ∨ j = 3 ∨ j = 4 ∨ j = 5 ∨ j = 6 ∨ j = 7 ∨ j = 8 ∨ j = 9 ∨ j = 10 ∨ j = 11 ∨ j = 12 ∨ j = 13 ∨ j = 14 ∨ j = 15 ∨ j = 16 ∨ j = 17 ∨ j = 18 := by omega
        rcases hjj with rfl | rfl | rfl | rfl | rfl | rfl | rfl | rfl | rfl | rfl | rfl | rfl | rfl | rfl | rfl | rfl | rfl | rfl | rfl
        all_goals (cases ho; simp [Region.binds, slotHH] at hdep; refine ⟨rfl, rfl, ?_⟩)
        · first | (refine .inl ⟨(by first | rfl | (simp [Region.wanted, yielded, hdep]; done)), fun K hK => ?_⟩; unfold Oper.wp; simp [execOp, Oper.upon, go_sem, Act.eval, o6]; exact hK _ (Below.refl _ _)) | (refine .inl ⟨rfl, fun K hK => ?_⟩; unfold Oper.wp; simp [execOp, Oper.upon, go_sem, Act.eval, o0, o6, r0, r4, r5, d0]; exact hK _ (Below.refl _ _))
        · first | (refine .inl ⟨(by first | rfl | (simp [Region.wanted, yielded, hdep]; done)), fun K hK => ?_⟩; unfold Oper.wp; simp [execOp, Oper.upon, go_sem, Act.eval, o0]; exact hK _ (Below.refl _ _)) | (refine .inl ⟨rfl, fun K hK => ?_⟩; unfold Oper.wp; simp [execOp, Oper.upon, go_sem, Act.eval, o0, o6, r0, r4, r5, d0]; exact hK _ (Below.refl _ _))
        · first | (refine .inl ⟨(by first | rfl | (simp [Region.wanted, yielded, hdep]; done)), fun K hK => ?_⟩; unfold Oper.wp; simp [execOp, Oper.upon, go_sem, Act.eval, hdep]; exact hK _ (Below.refl _ _)) | (refine .inl ⟨rfl, fun K hK => ?_⟩; unfold Oper.wp; simp [execOp, Oper.upon, go_sem, Act.eval, o0, o6, r0, r4, r5, d0]; exact hK _ (Below.refl _ _))
        · first | (refine .inl ⟨(by first | rfl | (simp [Region.wanted, yielded, hdep]; done)), fun K hK => ?_⟩; unfold Oper.wp; simp [execOp, Oper.upon, go_sem, Act.eval, hdep]; exact hK _ (Below.refl _ _)) | (refine .inl ⟨rfl, fun K hK => ?_⟩; unfold Oper.wp; simp [execOp, Oper.upon, go_sem, Act.eval, o0, o6, r0, r4, r5, d0]; exact hK _ (Below.refl _ _))
        · first | (refine .inl ⟨(by first | rfl | (simp [Region.wanted, yielded, hdep]; done)), fun K hK => ?_⟩; unfold Oper.wp; simp [execOp, Oper.upon, go_sem, Act.eval, hdep, r5]; exact hK _ (Below.refl _ _)) | (refine .inl ⟨rfl, fun K hK => ?_⟩; unfold Oper.wp; simp [execOp, Oper.upon, go_sem, Act.eval, o0, o6, r0, r4, r5, d0]; exact hK _ (Below.refl _ _))
        · first | (refine .inl ⟨(by first | rfl | (simp [Region.wanted, yielded, hdep]; done)), fun K hK => ?_⟩; unfold Oper.wp; simp [execOp, Oper.upon, go_sem, Act.eval, hdep]; exact hK _ (Below.refl _ _)) | (refine .inl ⟨rfl, fun K hK => ?_⟩; unfold Oper.wp; simp [execOp, Oper.upon, go_sem, Act.eval, o0, o6, r0, r4, r5, d0]; exact hK _ (Below.refl _ _))
        · first | (refine .inl ⟨(by first | rfl | (simp [Region.wanted, yielded, hdep]; done)), fun K hK => ?_⟩; unfold Oper.wp; simp [execOp, Oper.upon, go_sem, Act.eval, o0]; exact hK _ (Below.refl _ _)) | (refine .inl ⟨rfl, fun K hK => ?_⟩; unfold Oper.wp; simp [execOp, Oper.upon, go_sem, Act.eval, o0, o6, r0, r4, r5, d0]; exact hK _ (Below.refl _ _))
        · first | (refine .inl ⟨(by first | rfl | (simp [Region.wanted, yielded, hdep]; done)), fun K hK => ?_⟩; unfold Oper.wp; simp [execOp, Oper.upon, go_sem, Act.eval, hdep]; exact hK _ (Below.refl _ _)) | (refine .inl ⟨rfl, fun K hK => ?_⟩; unfold Oper.wp; simp [execOp, Oper.upon, go_sem, Act.eval, o0, o6, r0, r4, r5, d0]; exact hK _ (Below.refl _ _))
        · first | (refine .inl ⟨(by first | rfl | (simp [Region.wanted, yielded, hdep]; done)), fun K hK => ?_⟩; unfold Oper.wp; simp [execOp, Oper.upon, go_sem, Act.eval, hdep]; exact hK _ (Below.refl _ _)) | (refine .inl ⟨rfl, fun K hK => ?_⟩; unfold Oper.wp; simp [execOp, Oper.upon, go_sem, Act.eval, o0, o6, r0, r4, r5, d0]; exact hK _ (Below.refl _ _))
        · first | (refine .inl ⟨(by first | rfl | (simp [Region.wanted, yielded, hdep]; done)), fun K hK => ?_⟩; unfold Oper.wp; simp [execOp, Oper.upon, go_sem, Act.eval, hdep]; exact hK _ (Below.refl _ _)) | (refine .inl ⟨rfl, fun K hK => ?_⟩; unfold Oper.wp; simp [execOp, Oper.upon, go_sem, Act.eval, o0, o6, r0, r4, r5, d0]; exact hK _ (Below.refl _ _))
        · first | (refine .inl ⟨(by first | rfl | (simp [Region.wanted, yielded, hdep]; done)), fun K hK => ?_⟩; unfold Oper.wp; simp [execOp, Oper.upon, go_sem, Act.eval, hdep, r0]; exact hK _ (Below.refl _ _)) | (refine .inl ⟨rfl, fun K hK => ?_⟩; unfold Oper.wp; simp [execOp, Oper.upon, go_sem, Act.eval, o0, o6, r0, r4, r5, d0]; exact hK _ (Below.refl _ _))
        · first | (refine .inl ⟨(by first | rfl | (simp [Region.wanted, yielded, hdep]; done)), fun K hK => ?_⟩; unfold Oper.wp; simp [execOp, Oper.upon, go_sem, Act.eval, o0]; exact hK _ (Below.refl _ _)) | (refine .inl ⟨rfl, fun K hK => ?_⟩; unfold Oper.wp; simp [execOp, Oper.upon, go_sem, Act.eval, o0, o6, r0, r4, r5, d0]; exact hK _ (Below.refl _ _))
        · first | (refine .inl ⟨(by first | rfl | (simp [Region.wanted, yielded, hdep]; done)), fun K hK => ?_⟩; unfold Oper.wp; simp [execOp, Oper.upon, go_sem, Act.eval, hdep]; exact hK _ (Below.refl _ _)) | (refine .inl ⟨rfl, fun K hK => ?_⟩; unfold Oper.wp; simp [execOp, Oper.upon, go_sem, Act.eval, o0, o6, r0, r4, r5, d0]; exact hK _ (Below.refl _ _))
        · first | (refine .inl ⟨(by first | rfl | (simp [Region.wanted, yielded, hdep]; done)), fun K hK => ?_⟩; unfold Oper.wp; simp [execOp, Oper.upon, go_sem, Act.eval, hdep]; exact hK _ (Below.refl _ _)) | (refine .inl ⟨rfl, fun K hK => ?_⟩; unfold Oper.wp; simp [execOp, Oper.upon, go_sem, Act.eval, o0, o6, r0, r4, r5, d0]; exact hK _ (Below.refl _ _))
        · first | (refine .inl ⟨(by first | rfl | (simp [Region.wanted, yielded, hdep]; done)), fun K hK => ?_⟩; unfold Oper.wp; simp [execOp, Oper.upon, go_sem, Act.eval, hdep, r4]; exact hK _ (Below.refl _ _)) | (refine .inl ⟨rfl, fun K hK => ?_⟩; unfold Oper.wp; simp [execOp, Oper.upon, go_sem, Act.eval, o0, o6, r0, r4, r5, d0]; exact hK _ (Below.refl _ _))
        · first | (refine .inl ⟨(by first | rfl | (simp [Region.wanted, yielded, hdep]; done)), fun K hK => ?_⟩; unfold Oper.wp; simp [execOp, Oper.upon, go_sem, Act.eval, hdep, d0]; exact hK _ (Below.refl _ _)) | (refine .inl ⟨rfl, fun K hK => ?_⟩; unfold Oper.wp; simp [execOp, Oper.upon, go_sem, Act.eval, o0, o6, r0, r4, r5, d0]; exact hK _ (Below.refl _ _))
        · first | (refine .inl ⟨(by first | rfl | (simp [Region.wanted, yielded, hdep]; done)), fun K hK => ?_⟩; unfold Oper.wp; simp [execOp, Oper.upon, go_sem, Act.eval, hdep]; exact hK _ (Below.refl _ _)) | (refine .inl ⟨rfl, fun K hK => ?_⟩; unfold Oper.wp; simp [execOp, Oper.upon, go_sem, Act.eval, o0, o6, r0, r4, r5, d0]; exact hK _ (Below.refl _ _))
        · first | (refine .inl ⟨(by first | rfl | (simp [Region.wanted, yielded, hdep]; done)), fun K hK => ?_⟩; unfold Oper.wp; simp [execOp, Oper.upon, go_sem, Act.eval, hdep]; exact hK _ (Below.refl _ _)) | (refine .inl ⟨rfl, fun K hK => ?_⟩; unfold Oper.wp; simp [execOp, Oper.upon, go_sem, Act.eval, o0, o6, r0, r4, r5, d0]; exact hK _ (Below.refl _ _))
        · first | (refine .inl ⟨(by first | rfl | (simp [Region.wanted, yielded, hdep]; done)), fun K hK => ?_⟩; unfold Oper.wp; simp [execOp, Oper.upon, go_sem, Act.eval, hdep]; exact hK _ (Below.refl _ _)) | (refine .inl ⟨rfl, fun K hK => ?_⟩; unfold Oper.wp; simp [execOp, Oper.upon, go_sem, Act.eval, o0, o6, r0, r4, r5, d0]; exact hK _ (Below.refl _ _))
      rintro w3 hb3
      have hX := (And.intro (hT.out.1.below hb3) (hT.out.2.below hb3) : Tr b g1 g2 w w3 ∧ RbAt w3 b g1 g2 { R with at_ := R.at_ + m, bs := takeB m R.bs, hs := takeH m R.hs })
      go_wp2
      go_returns
      exact ⟨by rw [HBL.out]; rfl, hX⟩
    · have d0 : (A == R.fin) = false := beq_eq_false_iff_ne.2 hAf
      rw [decide_eq_false hAf] at hbl
      subst hbl
      clear hAf
      go_wp2_with fail
      refine grow_region 19 (slotHH 20 17 4 5) (fun jj => (#[.string S, .pointer (some ⟨b, 0, none⟩), .pointer (some ⟨b, 0, none⟩), .pointer (some ⟨b, 5, none⟩), .bool true, .bool true, .pointer (some ⟨b, 0, none⟩), .pointer (some ⟨b, 0, none⟩), .pointer (some ⟨b, 0, none⟩), .pointer (some ⟨b, 0, none⟩), .int .i64 A, .pointer (some ⟨b, 0, none⟩), .pointer (some ⟨b, 0, none⟩), .pointer (some ⟨b, 4, none⟩), .int .i64 R.fin, .bool false, .bool false, .string S, .bool false] : Array Value)[jj]?.getD undef) (tm := #[.pointer (some ⟨b, 0, none⟩), .int .i64 n, undef, undef, .string S, .bool false, .string S, .pointer (some ⟨b, 0, none⟩), .bool false, .pointer (some ⟨b, 0, none⟩), .pointer (some ⟨b, 0, none⟩), .pointer (some ⟨b, 0, none⟩), .int .i64 n, .pointer (some ⟨b, 0, none⟩), .pointer (some ⟨b, 0, none⟩), .pointer (some ⟨b, 0, none⟩), .int .i64 r, .int .i64 m, .int .i64 m, .string S, .string S, .pointer (some ⟨b, 0, none⟩), .pointer (some ⟨b, 0, none⟩), .pointer (some ⟨b, 5, none⟩), .bool true, .bool true, .pointer (some ⟨b, 0, none⟩), .pointer (some ⟨b, 0, none⟩), .pointer (some ⟨b, 0, none⟩), .pointer (some ⟨b, 0, none⟩), .int .i64 A, .pointer (some ⟨b, 0, none⟩), .pointer (some ⟨b, 0, none⟩), .pointer (some ⟨b, 4, none⟩), .int .i64 R.fin, .bool false, .bool false]) rfl (by kernel_rfl) rfl (fun i d _ h => by have := slotHH_is h; show d < 37; omega) (fun i j d _ _ h1 h2 => by have := slotHH_is h1; have := slotHH_is h2; omega) ?_ (by kernel_rfl) ?_
      · rintro j o hj ho a w1 hb ⟨hold, hdep⟩
        have r0 := OLD.out _ hb _ _ q0
        have r4 := OLD.out _ hb _ _ q4
        have r5 := OLD.out _ hb _ _ q5
        have o0 := hold 0 (fun i hi h => by have := slotHH_is h; omega)
        have o6 := hold 6 (fun i hi h => by have := slotHH_is h; omega)
        simp at o0 o6
        have hjj : j = 0 ∨ j = 1 ∨ j = 2 ∨ j = 3 ∨ j = 4 ∨ j = 5 ∨ j = 6 ∨ j = 7 ∨ j = 8 ∨ j = 9 ∨ j = 10 ∨ j = 11 ∨ j = 12 ∨ j = 13 ∨ j = 14 ∨ j = 15 ∨ j = 16 ∨ j = 17 ∨ j = 18 := by omega
        rcases hjj with rfl | rfl | rfl | rfl | rfl | rfl | rfl | rfl | rfl | rfl | rfl | rfl | rfl | rfl | rfl | rfl | rfl | rfl | rfl
        all_goals (cases ho; simp [Region.binds, slotHH] at hdep; refine ⟨rfl, rfl, ?_⟩)
        · first | (refine .inl ⟨(by first | rfl | (simp [Region.wanted, yielded, hdep]; done)), fun K hK => ?_⟩; unfold Oper.wp; simp [execOp, Oper.upon, go_sem, Act.eval, o6]; exact hK _ (Below.refl _ _)) | (refine .inl ⟨rfl, fun K hK => ?_⟩; unfold Oper.wp; simp [execOp, Oper.upon, go_sem, Act.eval, o0, o6, r0, r4, r5, d0]; exact hK _ (Below.refl _ _))
        · first | (refine .inl ⟨(by first | rfl | (simp [Region.wanted, yielded, hdep]; done)), fun K hK => ?_⟩; unfold Oper.wp; simp [execOp, Oper.upon, go_sem, Act.eval, o0]; exact hK _ (Below.refl _ _)) | (refine .inl ⟨rfl, fun K hK => ?_⟩; unfold Oper.wp; simp [execOp, Oper.upon, go_sem, Act.eval, o0, o6, r0, r4, r5, d0]; exact hK _ (Below.refl _ _))
        · first | (refine .inl ⟨(by first | rfl | (simp [Region.wanted, yielded, hdep]; done)), fun K hK => ?_⟩; unfold Oper.wp; simp [execOp, Oper.upon, go_sem, Act.eval, hdep]; exact hK _ (Below.refl _ _)) | (refine .inl ⟨rfl, fun K hK => ?_⟩; unfold Oper.wp; simp [execOp, Oper.upon, go_sem, Act.eval, o0, o6, r0, r4, r5, d0]; exact hK _ (Below.refl _ _))
        · first | (refine .inl ⟨(by first | rfl | (simp [Region.wanted, yielded, hdep]; done)), fun K hK => ?_⟩; unfold Oper.wp; simp [execOp, Oper.upon, go_sem, Act.eval, hdep]; exact hK _ (Below.refl _ _)) | (refine .inl ⟨rfl, fun K hK => ?_⟩; unfold Oper.wp; simp [execOp, Oper.upon, go_sem, Act.eval, o0, o6, r0, r4, r5, d0]; exact hK _ (Below.refl _ _))
        · first | (refine .inl ⟨(by first | rfl | (simp [Region.wanted, yielded, hdep]; done)), fun K hK => ?_⟩; unfold Oper.wp; simp [execOp, Oper.upon, go_sem, Act.eval, hdep, r5]; exact hK _ (Below.refl _ _)) | (refine .inl ⟨rfl, fun K hK => ?_⟩; unfold Oper.wp; simp [execOp, Oper.upon, go_sem, Act.eval, o0, o6, r0, r4, r5, d0]; exact hK _ (Below.refl _ _))
        · first | (refine .inl ⟨(by first | rfl | (simp [Region.wanted, yielded, hdep]; done)), fun K hK => ?_⟩; unfold Oper.wp; simp [execOp, Oper.upon, go_sem, Act.eval, hdep]; exact hK _ (Below.refl _ _)) | (refine .inl ⟨rfl, fun K hK => ?_⟩; unfold Oper.wp; simp [execOp, Oper.upon, go_sem, Act.eval, o0, o6, r0, r4, r5, d0]; exact hK _ (Below.refl _ _))
        · first | (refine .inl ⟨(by first | rfl | (simp [Region.wanted, yielded, hdep]; done)), fun K hK => ?_⟩; unfold Oper.wp; simp [execOp, Oper.upon, go_sem, Act.eval, o0]; exact hK _ (Below.refl _ _)) | (refine .inl ⟨rfl, fun K hK => ?_⟩; unfold Oper.wp; simp [execOp, Oper.upon, go_sem, Act.eval, o0, o6, r0, r4, r5, d0]; exact hK _ (Below.refl _ _))
        · first | (refine .inl ⟨(by first | rfl | (simp [Region.wanted, yielded, hdep]; done)), fun K hK => ?_⟩; unfold Oper.wp; simp [execOp, Oper.upon, go_sem, Act.eval, hdep]; exact hK _ (Below.refl _ _)) | (refine .inl ⟨rfl, fun K hK => ?_⟩; unfold Oper.wp; simp [execOp, Oper.upon, go_sem, Act.eval, o0, o6, r0, r4, r5, d0]; exact hK _ (Below.refl _ _))
        · first | (refine .inl ⟨(by first | rfl | (simp [Region.wanted, yielded, hdep]; done)), fun K hK => ?_⟩; unfold Oper.wp; simp [execOp, Oper.upon, go_sem, Act.eval, hdep]; exact hK _ (Below.refl _ _)) | (refine .inl ⟨rfl, fun K hK => ?_⟩; unfold Oper.wp; simp [execOp, Oper.upon, go_sem, Act.eval, o0, o6, r0, r4, r5, d0]; exact hK _ (Below.refl _ _))
        · first | (refine .inl ⟨(by first | rfl | (simp [Region.wanted, yielded, hdep]; done)), fun K hK => ?_⟩; unfold Oper.wp; simp [execOp, Oper.upon, go_sem, Act.eval, hdep]; exact hK _ (Below.refl _ _)) | (refine .inl ⟨rfl, fun K hK => ?_⟩; unfold Oper.wp; simp [execOp, Oper.upon, go_sem, Act.eval, o0, o6, r0, r4, r5, d0]; exact hK _ (Below.refl _ _))
        · first | (refine .inl ⟨(by first | rfl | (simp [Region.wanted, yielded, hdep]; done)), fun K hK => ?_⟩; unfold Oper.wp; simp [execOp, Oper.upon, go_sem, Act.eval, hdep, r0]; exact hK _ (Below.refl _ _)) | (refine .inl ⟨rfl, fun K hK => ?_⟩; unfold Oper.wp; simp [execOp, Oper.upon, go_sem, Act.eval, o0, o6, r0, r4, r5, d0]; exact hK _ (Below.refl _ _))
        · first | (refine .inl ⟨(by first | rfl | (simp [Region.wanted, yielded, hdep]; done)), fun K hK => ?_⟩; unfold Oper.wp; simp [execOp, Oper.upon, go_sem, Act.eval, o0]; exact hK _ (Below.refl _ _)) | (refine .inl ⟨rfl, fun K hK => ?_⟩; unfold Oper.wp; simp [execOp, Oper.upon, go_sem, Act.eval, o0, o6, r0, r4, r5, d0]; exact hK _ (Below.refl _ _))
        · first | (refine .inl ⟨(by first | rfl | (simp [Region.wanted, yielded, hdep]; done)), fun K hK => ?_⟩; unfold Oper.wp; simp [execOp, Oper.upon, go_sem, Act.eval, hdep]; exact hK _ (Below.refl _ _)) | (refine .inl ⟨rfl, fun K hK => ?_⟩; unfold Oper.wp; simp [execOp, Oper.upon, go_sem, Act.eval, o0, o6, r0, r4, r5, d0]; exact hK _ (Below.refl _ _))
        · first | (refine .inl ⟨(by first | rfl | (simp [Region.wanted, yielded, hdep]; done)), fun K hK => ?_⟩; unfold Oper.wp; simp [execOp, Oper.upon, go_sem, Act.eval, hdep]; exact hK _ (Below.refl _ _)) | (refine .inl ⟨rfl, fun K hK => ?_⟩; unfold Oper.wp; simp [execOp, Oper.upon, go_sem, Act.eval, o0, o6, r0, r4, r5, d0]; exact hK _ (Below.refl _ _))
        · first | (refine .inl ⟨(by first | rfl | (simp [Region.wanted, yielded, hdep]; done)), fun K hK => ?_⟩; unfold Oper.wp; simp [execOp, Oper.upon, go_sem, Act.eval, hdep, r4]; exact hK _ (Below.refl _ _)) | (refine .inl ⟨rfl, fun K hK => ?_⟩; unfold Oper.wp; simp [execOp, Oper.upon, go_sem, Act.eval, o0, o6, r0, r4, r5, d0]; exact hK _ (Below.refl _ _))
        · first | (refine .inl ⟨(by first | rfl | (simp [Region.wanted, yielded, hdep]; done)), fun K hK => ?_⟩; unfold Oper.wp; simp [execOp, Oper.upon, go_sem, Act.eval, hdep, d0]; exact hK _ (Below.refl _ _)) | (refine .inl ⟨rfl, fun K hK => ?_⟩; unfold Oper.wp; simp [execOp, Oper.upon, go_sem, Act.eval, o0, o6, r0, r4, r5, d0]; exact hK _ (Below.refl _ _))
        · first | (refine .inl ⟨(by first | rfl | (simp [Region.wanted, yielded, hdep]; done)), fun K hK => ?_⟩; unfold Oper.wp; simp [execOp, Oper.upon, go_sem, Act.eval, hdep]; exact hK _ (Below.refl _ _)) | (refine .inl ⟨rfl, fun K hK => ?_⟩; unfold Oper.wp; simp [execOp, Oper.upon, go_sem, Act.eval, o0, o6, r0, r4, r5, d0]; exact hK _ (Below.refl _ _))
        · first | (refine .inl ⟨(by first | rfl | (simp [Region.wanted, yielded, hdep]; done)), fun K hK => ?_⟩; unfold Oper.wp; simp [execOp, Oper.upon, go_sem, Act.eval, hdep]; exact hK _ (Below.refl _ _)) | (refine .inl ⟨rfl, fun K hK => ?_⟩; unfold Oper.wp; simp [execOp, Oper.upon, go_sem, Act.eval, o0, o6, r0, r4, r5, d0]; exact hK _ (Below.refl _ _))
        · first | (refine .inl ⟨(by first | rfl | (simp [Region.wanted, yielded, hdep]; done)), fun K hK => ?_⟩; unfold Oper.wp; simp [execOp, Oper.upon, go_sem, Act.eval, hdep]; exact hK _ (Below.refl _ _)) | (refine .inl ⟨rfl, fun K hK => ?_⟩; unfold Oper.wp; simp [execOp, Oper.upon, go_sem, Act.eval, o0, o6, r0, r4, r5, d0]; exact hK _ (Below.refl _ _))
      rintro w3 hb3
      have hX := (And.intro (hT.out.1.below hb3) (hT.out.2.below hb3) : Tr b g1 g2 w w3 ∧ RbAt w3 b g1 g2 { R with at_ := R.at_ + m, bs := takeB m R.bs, hs := takeH m R.hs })
      go_wp2
      go_returns
      exact ⟨by rw [HBL.out]; rfl, hX⟩
end Go.Proofs.YtpfkeohaaeiaaaaGreatDoor.rea
