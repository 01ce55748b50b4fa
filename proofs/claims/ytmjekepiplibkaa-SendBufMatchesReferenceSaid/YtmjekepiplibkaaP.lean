import Derived.Test.YtmjekepiplibkaaO
namespace Go.Proofs.Ytmjekepiplibkaa
open Go.RowKit
set_option maxHeartbeats 8000000 in
theorem acked_eq (b : Nat) (F : Nat → Prop) (B0 : Bf) (f : Fr) (w : World) (h : Inv w b F B0) (hg0 : Good B0) (hf : fitsF B0 f = true) (hq : ¬ lead (markB true B0 f).st < (markB true B0 f).st.length) :
    Calls Try.prog 18 #[.pointer (some ⟨b, 0, none⟩), f.val] w fun e w' => e = .returned (.int .i64 0) ∧ Chg F w w' ∧ Inv w' b (Ext F w w') (ackedB B0 f) := by
  have H0 : Below w.heap.size w (w.alloc (.cells f.cells 35)) := (Below.refl _ w).alloc (Nat.le_refl _) _
  have HQ := Lib.hid (heap_alloc_new w (.cells f.cells 35))
  have HC : Hid (Chg F w (w.alloc (.cells f.cells 35))) := Lib.hid (Chg.below H0)
  have MB := Lib.hid (mark_ok35 b F B0 f _ (h.below H0) hg0 hf)
  unfold ackedB
  have hg := hg0.mark true f
  generalize markB true B0 f = B at *
  obtain ⟨p, hp⟩ : ∃ p, lead B.st = p := ⟨_, rfl⟩
  have HD : Hid (dropB B = { B with base := B.base + p, data := B.data.drop p, st := B.st.drop p }) := Lib.hid (by unfold dropB; rw [hp])
  have hple := lead_le B.st
  have hplt := Lib.hid (lead_lt B.st)
  have hpat := Lib.hid (lead_at B.st)
  rw [hp] at hple hplt hpat hq
  obtain ⟨l1, l2, b0, b1, len, cp, s0, s1⟩ := hg
  obtain ⟨sl, hsl⟩ : ∃ n, B.st.length = n := ⟨_, rfl⟩
  rw [hsl] at hple hpat len hq
  have hs9 : sl ≤ 8192 := by omega
  have hw1 : IntKind.i64.wrap (B.base + (p : Int)) = B.base + (p : Int) := IntWalk.i64_in _ (by omega)
  have HL := Lib.hid len
  clear H0 hf h hp hg0 len
  change Calls Try.prog 18 #[.pointer (some ⟨b, 0, none⟩), .agg f.cells] w _
  go_enter Try.func18, Try.ntmps18
  go_wp2_with (first | (go_at_call 33; refine MB.out.mono ?_; rintro e w2 ⟨rfl, hC, hI⟩) | (refine wpList_load_row rfl 35 _ rfl w.heap.size rfl 35 f.cells (0, 0) _ HQ.out Try.underlying35 rfl (size35 f) ?_))
  have C2 := Lib.hid (HC.out.trans1 hC)
  obtain ⟨vd, vs, R⟩ := hI
  clear HC MB HQ hC
  have HR := Lib.hid R
  obtain ⟨a2, caps, rfl, hcaps⟩ := own_form R.rs
  obtain ⟨c0, c1, c2, c3, c4, c5, c6, fr⟩ := R.facts
  rw [hsl] at c3
  clear c0 c2 c4 c5 c6
  go_loopw [6] (fun i wr => ∃ (k : Nat), k ≤ p ∧ i = .int .i64 k ∧ wr = w2) (fun i _ => p - (intOf i).toNat)
  case atStart => exact ⟨0, by omega, rfl, rfl⟩
  case round =>
    obtain ⟨k, hk, rfl, rfl⟩ := hrel
    by_cases hlt : k < p
    · obtain ⟨g, cpp, e, hc1, hc2, hcell, hfr⟩ := own_cells R.rs (by omega)
      simp only [Value.slice.injEq] at e
      obtain ⟨rfl, _, rfl⟩ := e
      have e1 := hcell k (by omega)
      rw [hplt.out k hlt] at e1
      unfold maxLen at hc2
      have hks : k < sl := by omega
      clear hcell hfr R
      go_wp2
      go_roundw
      case rel => exact ⟨k + 1, by omega, by simp, trivial⟩
      case measure => simp [intOf]; omega
    · have hkp : k = p := by omega
      subst hkp
      have R7 := Lib.hid (HR.out.set 1 (.int .i64 (B.base + (k : Int))) (B' := { B with base := B.base + k }) rfl rfl rfl)
      have C7 := Lib.hid (C2.out.set b 1 (.int .i64 (B.base + (k : Int))) HR.out.fb)
      have hcm := R.rs.2
      clear R hk hlt
      have h1 : ¬ k < sl := hq
      clear hq
      clear hcm
      go_wp2
      have HKL : Hid (k ≤ B.data.length) := Lib.hid (by rw [← HL.out]; exact hple)
      have HSL : Hid (k ≤ B.st.length) := Lib.hid (by rw [hsl]; exact hple)
      clear c1 c3 fr
      change Code.wp _ _ _ _ (wr.setCell ⟨b, 1, none⟩ (.int .i64 (B.base + (k : Int))))
      generalize wr.setCell ⟨b, 1, none⟩ (.int .i64 (B.base + (k : Int))) = w8 at *
      clear HR C2 hsl hpat hplt hcaps h1 hs9
      try clear e1 e2
      obtain ⟨c0, c1, c2, c3, c4, c5, c6, fr⟩ := R7.out.facts
      clear c0 c1 c3 c4 c5 c6
      rcases R7.out.rd.2 with ⟨e, e0⟩ | ⟨gd, capd, cur, e, _, _, hnd, hcd, _⟩
      · subst e
        have hnl : B.data = [] := List.eq_nil_of_length_eq_zero e0
        have HK0 : Hid (k = 0) := Lib.hid (by have := HKL.out; rw [hnl] at this; simpa using this)
        have hk00 := HK0.out
        subst hk00
        clear HK0
        have N1 := Lib.hid (Rep.cutData R7.out.drew 0 (w3 := w8.drew) (by show 0 = (B.data.drop 0).length; rw [hnl]; simp) ⟨rfl, rfl, rfl, Nat.le_refl _, fun _ _ _ => rfl⟩ (by show World.ownsRow _ _ _ _ _ _ ((B.data.map (.int .u8)).drop 0); rw [hnl]; simpa using World.ownsRow_nil _ _ _ _))
        clear e0
        refine wp_join (fun w10 => w10 = w8.drew.setCell ⟨b, 2, none⟩ (.slice none 0 0)) ?_
        apply Exists.intro
        refine ⟨?_, ?_⟩
        · go_region_law ((refine step_copy_none rfl (.tmp 48) (.tmp 54) 31 31 rfl 5 Try.underlying31 info5 rfl rfl ?_))
          all_goals exact ⟨rfl, rfl⟩
        · rintro w10 rfl
          have hN : Chg F w8.drew (w8.drew.setCell ⟨b, 2, none⟩ (.slice none 0 0)) ∧ ∃ vd1 vs1, Rep (w8.drew.setCell ⟨b, 2, none⟩ (.slice none 0 0)) b (Ext F w8.drew (w8.drew.setCell ⟨b, 2, none⟩ (.slice none 0 0))) { B with base := B.base + 0, data := B.data.drop 0 } vd1 vs1 := ⟨N1.out.1, _, _, N1.out.2⟩
          clear N1
          generalize w8.drew.setCell ⟨b, 2, none⟩ (.slice none 0 0) = w10 at *
          revert hN
          revert w10
          rintro w10 ⟨hC1, vd1, vs1, hR1⟩
          have C8 := Lib.hid (C7.out.trans1 ((Chg.refl F w8).drew.trans1 hC1))
          have Z8 : Hid (w.heap.size ≤ w8.drew.heap.size) := Lib.hid C7.out.size
          have ZZ := Lib.hid hC1.size
          have R8 := Lib.hid hR1
          clear c2 fr hC1 hR1 R7
          go_wp2
          obtain ⟨c0, c1, c2, c3, c4, c5, c6, fr⟩ := R8.out.facts
          clear c0 c1 c2 c4 c5 c6
          have FIN : Hid (∀ w12, Chg (Ext F w8.drew w10) w10.drew w12 → (∃ vd2 vs2, Rep w12 b (Ext (Ext F w8.drew w10) w10.drew w12) { B with base := B.base + 0, data := B.data.drop 0, st := B.st.drop 0 } vd2 vs2) → Chg F w w12 ∧ Inv w12 b (Ext F w w12) (dropB B)) := Lib.hid (fun w12 hC2 ⟨vd2, vs2, hR2⟩ => ⟨C8.out.drew.trans (hC2.mono (ext_left Z8.out)), vd2, vs2, by rw [HD.out]; exact hR2.ext (ext_ext (w1 := w8.drew) Z8.out ZZ.out hC2.size)⟩)
          clear C8 ZZ Z8
          rcases R8.out.rs.2 with ⟨e, e0⟩ | ⟨gs, caps2, cur, e, _, _, hnd, hcd, _⟩
          · subst e
            have hnl : B.st = [] := List.eq_nil_of_length_eq_zero e0
            have N2 := Lib.hid (Rep.cutStates R8.out.drew 0 (w3 := w10.drew) (by show 0 = (B.st.drop 0).length; rw [hnl]; simp) ⟨rfl, rfl, rfl, Nat.le_refl _, fun _ _ _ => rfl⟩ (by show World.ownsRow _ _ _ _ _ _ ((B.st.map (.int .u8)).drop 0); rw [hnl]; simpa using World.ownsRow_nil _ _ _ _))
            clear e0
            refine wp_join (fun w12 => w12 = w10.drew.setCell ⟨b, 3, none⟩ (.slice none 0 0)) ?_
            apply Exists.intro
            refine ⟨?_, ?_⟩
            · go_region_law ((refine step_copy_none rfl (.tmp 67) (.tmp 73) 56 56 rfl 57 Try.underlying56 info57 rfl rfl ?_))
              all_goals exact ⟨rfl, rfl⟩
            · rintro w12 rfl
              have FI := Lib.hid (FIN.out _ N2.out.1 ⟨_, _, N2.out.2⟩)
              clear c3 fr R8 N2
              go_wp2
              go_ret
              exact ⟨rfl, FI.out⟩
          · subst e
            unfold maxLen at hcd
            have hkl := HSL.out
            have hnd2 : B.st.length ≤ caps2 := hnd
            have hmc : B.st.length ≤ caps2 := by omega
            have HPM2 : Hid (0 + B.st.length = B.st.length) := Lib.hid (by omega)
            have HML2 : Hid (B.st.length = (B.st.drop 0).length) := Lib.hid (by simp)
            obtain ⟨Z2, hZ2⟩ : ∃ Z : Option Addr, (if caps2 = 0 then some (⟨gs, 0, none⟩ : Addr) else some ⟨gs, 0, none⟩) = Z := ⟨_, rfl⟩
            have HNE2 : Hid (0 < B.st.length → Z2 = some ⟨gs, 0, none⟩) := Lib.hid (fun h => by rw [← hZ2]; exact if_neg (by omega))
            clear hnd
            refine wp_join (fun w12 => Chg (Ext F w8.drew w10) w10.drew w12 ∧ ∃ vd1 vs1, Rep w12 b (Ext (Ext F w8.drew w10) w10.drew w12) { B with base := B.base + 0, data := B.data.drop 0, st := B.st.drop 0 } vd1 vs1) ?_
            apply Exists.intro
            refine ⟨?_, ?_⟩
            · go_region_law ((refine step_copy_down rfl (.tmp 67) (.tmp 73) 56 56 rfl 57 Try.underlying56 info57 gs B.st.length caps2 0 (B.st.length) _ R8.out.drew.rs HPM2.out (one_map _ _) rfl _ _ rfl (fun _ => rfl) ?_; intro w11 ho hg; have c3' := (cell_whole (R8.out.drew.heapb (.inr rfl) hg) 3).trans (rfl : _ = some (Value.slice (some ⟨gs, 0, none⟩) B.st.length caps2)); have fr' := frozen_whole (R8.out.drew.heapb (.inr rfl) hg)))
              all_goals
                have N2 := Rep.cutStates R8.out.drew 0 HML2.out hg ho
                exact ⟨rfl, N2.1, _, _, N2.2⟩
            · rintro w12 ⟨hC2, hR2⟩
              have FI := Lib.hid (FIN.out _ hC2 hR2)
              clear c3 fr R8 hC2 hR2
              go_wp2
              go_ret
              exact ⟨rfl, FI.out⟩
      · simp only [] at e
        subst e
        unfold maxLen at hcd
        have hkl := HKL.out
        have hnd2 : B.data.length ≤ capd := hnd
        have hmc : B.data.length - k ≤ capd := by omega
        have HPM : Hid (k + (B.data.length - k) = B.data.length) := Lib.hid (by omega)
        have HML : Hid (B.data.length - k = (B.data.drop k).length) := Lib.hid (by rw [List.length_drop])
        obtain ⟨Z, hZ⟩ : ∃ Z : Option Addr, (if capd = k then some (⟨gd, 0, none⟩ : Addr) else some ⟨gd, k, none⟩) = Z := ⟨_, rfl⟩
        have HNE : Hid (0 < B.data.length - k → Z = some ⟨gd, k, none⟩) := Lib.hid (fun h => by rw [← hZ]; exact if_neg (by omega))
        clear hnd
        refine wp_join (fun w10 => Chg F w8.drew w10 ∧ ∃ vd1 vs1, Rep w10 b (Ext F w8.drew w10) { B with base := B.base + k, data := B.data.drop k } vd1 vs1) ?_
        apply Exists.intro
        refine ⟨?_, ?_⟩
        · go_region_law ((refine step_copy_down rfl (.tmp 48) (.tmp 54) 31 31 rfl 5 Try.underlying31 info5 gd B.data.length capd k (B.data.length - k) _ R7.out.drew.rd HPM.out (one_map _ _) rfl _ _ rfl HNE.out ?_; intro w9 ho hg; have c2' := (cell_whole (R7.out.drew.heapb (.inl rfl) hg) 2).trans (rfl : _ = some (Value.slice (some ⟨gd, 0, none⟩) B.data.length capd)); have fr' := frozen_whole (R7.out.drew.heapb (.inl rfl) hg)))
          all_goals
            have N1 := Rep.cutData R7.out.drew k HML.out hg ho
            exact ⟨rfl, N1.1, _, _, N1.2⟩
        · rintro w10 ⟨hC1, vd1, vs1, hR1⟩
          have C8 := Lib.hid (C7.out.trans1 ((Chg.refl F w8).drew.trans1 hC1))
          have Z8 : Hid (w.heap.size ≤ w8.drew.heap.size) := Lib.hid C7.out.size
          have ZZ := Lib.hid hC1.size
          have R8 := Lib.hid hR1
          clear c2 fr hC1 hR1 R7
          clear hmc hkl hnd2
          go_wp2
          obtain ⟨c0, c1, c2, c3, c4, c5, c6, fr⟩ := R8.out.facts
          clear c0 c1 c2 c4 c5 c6
          have FIN : Hid (∀ w12, Chg (Ext F w8.drew w10) w10.drew w12 → (∃ vd2 vs2, Rep w12 b (Ext (Ext F w8.drew w10) w10.drew w12) { B with base := B.base + k, data := B.data.drop k, st := B.st.drop k } vd2 vs2) → Chg F w w12 ∧ Inv w12 b (Ext F w w12) (dropB B)) := Lib.hid (fun w12 hC2 ⟨vd2, vs2, hR2⟩ => ⟨C8.out.drew.trans (hC2.mono (ext_left Z8.out)), vd2, vs2, by rw [HD.out]; exact hR2.ext (ext_ext (w1 := w8.drew) Z8.out ZZ.out hC2.size)⟩)
          clear C8 ZZ Z8
          rcases R8.out.rs.2 with ⟨e, e0⟩ | ⟨gs, caps2, cur, e, _, _, hnd, hcd, _⟩
          · subst e
            have hnl : B.st = [] := List.eq_nil_of_length_eq_zero e0
            have HK0 : Hid (k = 0) := Lib.hid (by have := HSL.out; rw [hnl] at this; simpa using this)
            have N2 := Lib.hid (Rep.cutStates R8.out.drew k (w3 := w10.drew) (by show 0 = (B.st.drop k).length; rw [hnl]; simp) ⟨rfl, rfl, rfl, Nat.le_refl _, fun _ _ _ => rfl⟩ (by show World.ownsRow _ _ _ _ _ _ ((B.st.map (.int .u8)).drop k); rw [hnl]; simpa using World.ownsRow_nil _ _ _ _))
            have hk0 := HK0.out
            clear e0
            refine wp_join (fun w12 => w12 = w10.drew.setCell ⟨b, 3, none⟩ (.slice none 0 0)) ?_
            apply Exists.intro
            refine ⟨?_, ?_⟩
            · go_region_law ((refine step_copy_none rfl (.tmp 67) (.tmp 73) 56 56 rfl 57 Try.underlying56 info57 rfl rfl ?_))
              all_goals exact ⟨rfl, rfl⟩
            · rintro w12 rfl
              clear hk0
              have FI := Lib.hid (FIN.out _ N2.out.1 ⟨_, _, N2.out.2⟩)
              clear c3 fr R8 N2
              go_wp2
              go_ret
              exact ⟨rfl, FI.out⟩
          · subst e
            unfold maxLen at hcd
            have hkl := HSL.out
            have hnd2 : B.st.length ≤ caps2 := hnd
            have hmc : B.st.length - k ≤ caps2 := by omega
            have HPM2 : Hid (k + (B.st.length - k) = B.st.length) := Lib.hid (by omega)
            have HML2 : Hid (B.st.length - k = (B.st.drop k).length) := Lib.hid (by rw [List.length_drop])
            obtain ⟨Z2, hZ2⟩ : ∃ Z : Option Addr, (if caps2 = k then some (⟨gs, 0, none⟩ : Addr) else some ⟨gs, k, none⟩) = Z := ⟨_, rfl⟩
            have HNE2 : Hid (0 < B.st.length - k → Z2 = some ⟨gs, k, none⟩) := Lib.hid (fun h => by rw [← hZ2]; exact if_neg (by omega))
            clear hnd
            refine wp_join (fun w12 => Chg (Ext F w8.drew w10) w10.drew w12 ∧ ∃ vd1 vs1, Rep w12 b (Ext (Ext F w8.drew w10) w10.drew w12) { B with base := B.base + k, data := B.data.drop k, st := B.st.drop k } vd1 vs1) ?_
            apply Exists.intro
            refine ⟨?_, ?_⟩
            · go_region_law ((refine step_copy_down rfl (.tmp 67) (.tmp 73) 56 56 rfl 57 Try.underlying56 info57 gs B.st.length caps2 k (B.st.length - k) _ R8.out.drew.rs HPM2.out (one_map _ _) rfl _ _ rfl HNE2.out ?_; intro w11 ho hg; have c3' := (cell_whole (R8.out.drew.heapb (.inr rfl) hg) 3).trans (rfl : _ = some (Value.slice (some ⟨gs, 0, none⟩) B.st.length caps2)); have fr' := frozen_whole (R8.out.drew.heapb (.inr rfl) hg)))
              all_goals
                have N2 := Rep.cutStates R8.out.drew k HML2.out hg ho
                exact ⟨rfl, N2.1, _, _, N2.2⟩
            · rintro w12 ⟨hC2, hR2⟩
              have FI := Lib.hid (FIN.out _ hC2 hR2)
              clear c3 fr R8 hC2 hR2
              go_wp2
              go_ret
              exact ⟨rfl, FI.out⟩
theorem acked_any (b : Nat) (F : Nat → Prop) (B : Bf) (f : Fr) (w : World) (h : Inv w b F B) (hg : Good B) :
    Calls Try.prog 18 #[.pointer (some ⟨b, 0, none⟩), f.val] w fun e w' => e = .returned (.int .i64 (if fitsF B f then 0 else 170)) ∧ Chg F w w' ∧ Inv w' b (Ext F w w') (if fitsF B f then ackedB B f else B) := by
  cases hf : fitsF B f
  · exact (acked_bad b F B f w h hg hf).mono fun _ _ hh => ⟨hh.1, Chg.below hh.2, (h.below hh.2).ext (fun k hk => .inl hk)⟩
  · by_cases hq : lead (markB true B f).st < (markB true B f).st.length
    · exact acked_lt b F B f w h hg hf hq
    · exact acked_eq b F B f w h hg hf hq
end Go.Proofs.Ytmjekepiplibkaa
