import Derived.Test.YtmjekepiplibkaaN
namespace Go.Proofs.Ytmjekepiplibkaa
open Go.RowKit
theorem wp_join {P : Program} {c : Code} {Q : Exit → Act → World → Prop} {a : Act} {w : World} (R : World → Prop) (h : ∃ A : Act, c.wp P (Exit.then (fun a9 w9 => a9 = A ∧ R w9) (fun _ _ _ => False)) a w ∧ ∀ w9, R w9 → Q .normal A w9) : c.wp P Q a w := by
  obtain ⟨A, h1, h2⟩ := h
  refine Code.wp_mono (fun e a9 w9 hh => ?_) h1
  cases e <;> first | exact hh.elim | (obtain ⟨ha, hr⟩ := hh; subst ha; exact h2 w9 hr)
theorem step_copy_none {P : Program} {ops : Array Oper} {o : Oper} {a : Act} {w : World} {K : Act → World → Prop} {Q : Exit → Act → World → Prop} {E : Prop} (hgd : o.guard = none) (d s : Operand) (dT sT : TypeId)
    (ho : o.op = .call { callee := .builtin .copy, args := #[d, s], argTypes := #[dT, sT] }) (elem : TypeId) (hu : P.underlying dT = some (.slice elem)) (hsz : (P.info? elem).map (·.size) = some 1)
    (hd : a.eval d = .slice none 0 0) (hs : a.eval s = .slice none 0 0) (h : K (a.put o.dst (goInt 0)) w) :
    if Region.wanted o (yielded ops a.tmps) = true then Oper.wp P o a w K Q else E := by
  have hw : Region.wanted o (yielded ops a.tmps) = true := by simp [Region.wanted, hgd]
  rw [if_pos hw]
  have hrun := run_copy_none (P := P) w dT sT o.type elem none none 0 0 0 0 hu hsz (by simp)
  unfold Oper.wp
  simp [execOp, ho, resolve, invoke, builtin, hd, hs, hrun, Result.andThen]
  exact h
theorem info5 : (Try.prog.info? 5).map (·.size) = some 1 := by kernel_rfl
theorem info57 : (Try.prog.info? 57).map (·.size) = some 1 := by kernel_rfl
theorem one_map (k : IntKind) (l : List Int) : ∀ v ∈ l.map (Value.int k), v.oneCell' = true := by
  intro v hv
  obtain ⟨x, _, rfl⟩ := List.mem_map.1 hv
  rfl
/-- behind the first copy -/
theorem Rep.cutData {w w3 : World} {b : Nat} {F : Nat → Prop} {B : Bf} {vs : Value} {a : Option Addr} {n m cap : Nat} (R : Rep w b F B (.slice a n cap) vs) (k : Nat) (hm : m = (B.data.drop k).length) (hg : w.grownBy w3 (Value.ownBlock (.slice a n cap))) (ho : w3.ownsRow 0 5 1 (.slice a m cap) m ((B.data.map (.int .u8)).drop k)) :
    Chg F w (w3.setCell ⟨b, 2, none⟩ (.slice a m cap)) ∧ Rep (w3.setCell ⟨b, 2, none⟩ (.slice a m cap)) b (Ext F w (w3.setCell ⟨b, 2, none⟩ (.slice a m cap))) { B with data := B.data.drop k } (.slice a m cap) vs := by
  refine Rep.newData R hg (fun j hj => .inl ?_) ?_ rfl rfl
  · cases a with
    | none => simp [Value.ownBlock] at hj
    | some a => simpa [Value.ownBlock] using hj
  · rw [← List.map_drop] at ho
    rw [hm] at ho ⊢
    exact ho
theorem Rep.cutStates {w w3 : World} {b : Nat} {F : Nat → Prop} {B : Bf} {vd : Value} {a : Option Addr} {n m cap : Nat} (R : Rep w b F B vd (.slice a n cap)) (k : Nat) (hm : m = (B.st.drop k).length) (hg : w.grownBy w3 (Value.ownBlock (.slice a n cap))) (ho : w3.ownsRow 0 57 1 (.slice a m cap) m ((B.st.map (.int .u8)).drop k)) :
    Chg F w (w3.setCell ⟨b, 3, none⟩ (.slice a m cap)) ∧ Rep (w3.setCell ⟨b, 3, none⟩ (.slice a m cap)) b (Ext F w (w3.setCell ⟨b, 3, none⟩ (.slice a m cap))) { B with st := B.st.drop k } vd (.slice a m cap) := by
  refine Rep.newStates R hg (fun j hj => .inl ?_) ?_ rfl rfl
  · cases a with
    | none => simp [Value.ownBlock] at hj
    | some a => simpa [Value.ownBlock] using hj
  · rw [← List.map_drop] at ho
    rw [hm] at ho ⊢
    exact ho
theorem lost_any (b : Nat) (F : Nat → Prop) (B : Bf) (f : Fr) (w : World) (h : Inv w b F B) (hg : Good B) :
    Calls Try.prog 17 #[.pointer (some ⟨b, 0, none⟩), f.val] w fun e w' => e = .returned (.int .i64 (if fitsF B f then 0 else 170)) ∧ Chg F w w' ∧ Inv w' b (Ext F w w') (if fitsF B f then markB false B f else B) := by
  have H0 : Below w.heap.size w (w.alloc (.cells f.cells 35)) := (Below.refl _ w).alloc (Nat.le_refl _) _
  have HQ := Lib.hid (heap_alloc_new w (.cells f.cells 35))
  have HC : Hid (Chg F w (w.alloc (.cells f.cells 35))) := Lib.hid (Chg.below H0)
  have HZ : Hid (w.heap.size ≤ (w.alloc (.cells f.cells 35)).heap.size) := Lib.hid (by simp)
  have HI := Lib.hid (h.below H0)
  cases hf : fitsF B f
  · have MB := Lib.hid (mark_bad b F B f (.func (.func 34) #[] #[]) _ (h.below H0) hg hf)
    clear H0 hf
    change Calls Try.prog 17 #[.pointer (some ⟨b, 0, none⟩), .agg f.cells] w _
    go_enter Try.func17, Try.ntmps17
    go_wp2_with (first | (go_at_call 33; refine MB.out.mono ?_; rintro e w2 ⟨rfl, hB⟩) | (refine wpList_load_row rfl 35 _ rfl w.heap.size rfl 35 f.cells (0, 0) _ HQ.out Try.underlying35 rfl (size35 f) ?_))
    go_ret
    exact ⟨rfl, HC.out.trans1 (Chg.below hB), (HI.out.below hB).ext (fun k hk => .inl hk)⟩
  · have MB := Lib.hid (mark_ok34 b F B f _ (h.below H0) hg hf)
    clear H0 hf
    change Calls Try.prog 17 #[.pointer (some ⟨b, 0, none⟩), .agg f.cells] w _
    go_enter Try.func17, Try.ntmps17
    go_wp2_with (first | (go_at_call 33; refine MB.out.mono ?_; rintro e w2 ⟨rfl, hC, hI⟩) | (refine wpList_load_row rfl 35 _ rfl w.heap.size rfl 35 f.cells (0, 0) _ HQ.out Try.underlying35 rfl (size35 f) ?_))
    go_ret
    exact ⟨rfl, HC.out.trans1 hC, hI.ext (fun k hk => .inl hk)⟩
theorem acked_nil (f : Fr) (w : World) :
    Calls Try.prog 18 #[.pointer none, f.val] w fun e w' => e = .returned (.int .i64 1) ∧ Below w.heap.size w w' := by
  have H0 : Below w.heap.size w (w.alloc (.cells f.cells 35)) := (Below.refl _ w).alloc (Nat.le_refl _) _
  have HQ := Lib.hid (heap_alloc_new w (.cells f.cells 35))
  have HH := Lib.hid H0
  have MB := Lib.hid (mark_nil f (.func (.func 35) #[] #[]) (w.alloc (.cells f.cells 35)))
  clear H0
  change Calls Try.prog 18 #[.pointer none, .agg f.cells] w _
  go_enter Try.func18, Try.ntmps18
  go_wp2_with (first | (go_at_call 33; refine MB.out.mono ?_; rintro e w2 ⟨rfl, hB⟩) | (refine wpList_load_row rfl 35 _ rfl w.heap.size rfl 35 f.cells (0, 0) _ HQ.out Try.underlying35 rfl (size35 f) ?_))
  go_ret
  exact ⟨rfl, HH.out.trans (hB.mono (by simp))⟩
theorem acked_bad (b : Nat) (F : Nat → Prop) (B : Bf) (f : Fr) (w : World) (h : Inv w b F B) (hg : Good B) (hf : fitsF B f = false) :
    Calls Try.prog 18 #[.pointer (some ⟨b, 0, none⟩), f.val] w fun e w' => e = .returned (.int .i64 170) ∧ Below w.heap.size w w' := by
  have H0 : Below w.heap.size w (w.alloc (.cells f.cells 35)) := (Below.refl _ w).alloc (Nat.le_refl _) _
  have HQ := Lib.hid (heap_alloc_new w (.cells f.cells 35))
  have HH := Lib.hid H0
  have MB := Lib.hid (mark_bad b F B f (.func (.func 35) #[] #[]) _ (h.below H0) hg hf)
  clear H0 hf
  change Calls Try.prog 18 #[.pointer (some ⟨b, 0, none⟩), .agg f.cells] w _
  go_enter Try.func18, Try.ntmps18
  go_wp2_with (first | (go_at_call 33; refine MB.out.mono ?_; rintro e w2 ⟨rfl, hB⟩) | (refine wpList_load_row rfl 35 _ rfl w.heap.size rfl 35 f.cells (0, 0) _ HQ.out Try.underlying35 rfl (size35 f) ?_))
  go_ret
  exact ⟨rfl, HH.out.trans (hB.mono (by simp))⟩
/-- how many of the first states are 'acknowledged' -/
def lead : List Int → Nat
  | [] => 0
  | x :: l => if x = 3 then lead l + 1 else 0
theorem lead_le (l : List Int) : lead l ≤ l.length := by
  induction l with
  | nil => exact Nat.le_refl _
  | cons x l ih => simp only [lead]; split <;> simp <;> omega
theorem lead_lt : ∀ (l : List Int) (k : Nat), k < lead l → l[k]?.getD 0 = 3 := by
  intro l
  induction l with
  | nil => intro k h; simp [lead] at h
  | cons x l ih =>
    intro k h
    simp only [lead] at h
    split at h
    · cases k with
      | zero => simpa using ‹x = 3›
      | succ k => simpa using ih k (by omega)
    · omega
theorem lead_at : ∀ (l : List Int), lead l < l.length → l[lead l]?.getD 0 ≠ 3 := by
  intro l
  induction l with
  | nil => intro h; simp [lead] at h
  | cons x l ih =>
    intro h
    simp only [lead] at h ⊢
    split
    · rename_i hx
      rw [if_pos hx] at h
      simpa using ih (by simpa using h)
    · simpa using ‹¬ x = 3›
def dropB (B : Bf) : Bf := { B with base := B.base + lead B.st, data := B.data.drop (lead B.st), st := B.st.drop (lead B.st) }
def ackedB (B : Bf) (f : Fr) : Bf := dropB (markB true B f)
theorem Good.mark {B : Bf} (hg : Good B) (A : Bool) (f : Fr) : Good (markB A B f) :=
  ⟨hg.l1, hg.l2, hg.b0, hg.b1, by simp only [markB, turnTo_length]; exact hg.len, hg.cap, hg.s0, hg.s1⟩
set_option maxHeartbeats 8000000 in
theorem acked_lt (b : Nat) (F : Nat → Prop) (B0 : Bf) (f : Fr) (w : World) (h : Inv w b F B0) (hg0 : Good B0) (hf : fitsF B0 f = true) (hq : lead (markB true B0 f).st < (markB true B0 f).st.length) :
    Calls Try.prog 18 #[.pointer (some ⟨b, 0, none⟩), f.val] w fun e w' => e = .returned (.int .i64 0) ∧ Chg F w w' ∧ Inv w' b (Ext F w w') (ackedB B0 f) := by
  have H0 : Below w.heap.size w (w.alloc (.cells f.cells 35)) := (Below.refl _ w).alloc (Nat.le_refl _) _
  have HQ := Lib.hid (heap_alloc_new w (.cells f.cells 35))
  have HC : Hid (Chg F w (w.alloc (.cells f.cells 35))) := Lib.hid (Chg.below H0)
  have MB := Lib.hid (mark_ok35 b F B0 f _ (h.below H0) hg0 hf)
  unfold ackedB
  have hg := hg0.mark true f
  generalize markB true B0 f = B at *
  obtain ⟨p, hp⟩ : ∃ p, lead B.st = p := ⟨_, rfl⟩
  have HD : Hid (dropB B = { B with base := B.base + p, data := B.data.drop p, st := B.st.drop p }) := Lib.hid (by unfold dropB; rw [hp])
  have hple := lead_le B.st
  have hplt := Lib.hid (lead_lt B.st)
  have hpat := Lib.hid (lead_at B.st)
  rw [hp] at hple hplt hpat hq
  obtain ⟨l1, l2, b0, b1, len, cp, s0, s1⟩ := hg
  obtain ⟨sl, hsl⟩ : ∃ n, B.st.length = n := ⟨_, rfl⟩
  rw [hsl] at hple hpat len hq
  have hs9 : sl ≤ 8192 := by omega
  have hw1 : IntKind.i64.wrap (B.base + (p : Int)) = B.base + (p : Int) := IntWalk.i64_in _ (by omega)
  have HL := Lib.hid len
  clear H0 hf h hp hg0 len
  change Calls Try.prog 18 #[.pointer (some ⟨b, 0, none⟩), .agg f.cells] w _
  go_enter Try.func18, Try.ntmps18
  go_wp2_with (first | (go_at_call 33; refine MB.out.mono ?_; rintro e w2 ⟨rfl, hC, hI⟩) | (refine wpList_load_row rfl 35 _ rfl w.heap.size rfl 35 f.cells (0, 0) _ HQ.out Try.underlying35 rfl (size35 f) ?_))
  have C2 := Lib.hid (HC.out.trans1 hC)
  obtain ⟨vd, vs, R⟩ := hI
  clear HC MB HQ hC
  have HR := Lib.hid R
  obtain ⟨a2, caps, rfl, hcaps⟩ := own_form R.rs
  obtain ⟨c0, c1, c2, c3, c4, c5, c6, fr⟩ := R.facts
  rw [hsl] at c3
  clear c0 c2 c4 c5 c6
  go_loopw [6] (fun i wr => ∃ (k : Nat), k ≤ p ∧ i = .int .i64 k ∧ wr = w2) (fun i _ => p - (intOf i).toNat)
  case atStart => exact ⟨0, by omega, rfl, rfl⟩
  case round =>
    obtain ⟨k, hk, rfl, rfl⟩ := hrel
    by_cases hlt : k < p
    · obtain ⟨g, cpp, e, hc1, hc2, hcell, hfr⟩ := own_cells R.rs (by omega)
      simp only [Value.slice.injEq] at e
      obtain ⟨rfl, _, rfl⟩ := e
      have e1 := hcell k (by omega)
      rw [hplt.out k hlt] at e1
      unfold maxLen at hc2
      have hks : k < sl := by omega
      clear hcell hfr R
      go_wp2
      go_roundw
      case rel => exact ⟨k + 1, by omega, by simp, trivial⟩
      case measure => simp [intOf]; omega
    · have hkp : k = p := by omega
      subst hkp
      have R7 := Lib.hid (HR.out.set 1 (.int .i64 (B.base + (k : Int))) (B' := { B with base := B.base + k }) rfl rfl rfl)
      have C7 := Lib.hid (C2.out.set b 1 (.int .i64 (B.base + (k : Int))) HR.out.fb)
      obtain ⟨g, x, rfl, e1, e2⟩ : ∃ g x, a2 = some ⟨g, 0, none⟩ ∧ wr.cell? ⟨g, k, none⟩ = some (.int .u8 x) ∧ (x == 3) = false := by
        obtain ⟨g, cpp, e, hc1, hc2, hcell, hfr⟩ := own_cells R.rs (by omega)
        simp only [Value.slice.injEq] at e
        obtain ⟨rfl, _, rfl⟩ := e
        exact ⟨g, _, rfl, hcell k (by omega), by simpa using hpat.out hq⟩
      have h1 : k < sl := hq
      have HDP : Hid (0 < B.data.length) := Lib.hid (by rw [← HL.out]; omega)
      have HSP : Hid (0 < B.st.length) := Lib.hid (by rw [hsl]; omega)
      clear hq
      have hcm := R.rs.2
      clear R hk hlt
      have hc2 : caps ≤ 9223372036854775807 := by
        rcases hcm with ⟨e, _⟩ | ⟨g, cap, cur, e, _, _, _, hc, _⟩
        · cases e
        · simp only [Value.slice.injEq] at e; obtain ⟨_, _, rfl⟩ := e; exact hc
      clear hcm
      go_wp2
      have HKL : Hid (k ≤ B.data.length) := Lib.hid (by rw [← HL.out]; exact hple)
      have HSL : Hid (k ≤ B.st.length) := Lib.hid (by rw [hsl]; exact hple)
      clear c1 c3 fr
      change Code.wp _ _ _ _ (wr.setCell ⟨b, 1, none⟩ (.int .i64 (B.base + (k : Int))))
      generalize wr.setCell ⟨b, 1, none⟩ (.int .i64 (B.base + (k : Int))) = w8 at *
      clear HR C2 hsl hpat hplt hcaps h1 hs9
      try clear e1 e2
      obtain ⟨c0, c1, c2, c3, c4, c5, c6, fr⟩ := R7.out.facts
      clear c0 c1 c3 c4 c5 c6
      rcases R7.out.rd.2 with ⟨e, e0⟩ | ⟨gd, capd, cur, e, _, _, hnd, hcd, _⟩
      · exact absurd HDP.out (by rw [show B.data.length = 0 from e0]; decide)
      · simp only [] at e
        subst e
        unfold maxLen at hcd
        have hkl := HKL.out
        have hnd2 : B.data.length ≤ capd := hnd
        have hmc : B.data.length - k ≤ capd := by omega
        have HPM : Hid (k + (B.data.length - k) = B.data.length) := Lib.hid (by omega)
        have HML : Hid (B.data.length - k = (B.data.drop k).length) := Lib.hid (by rw [List.length_drop])
        obtain ⟨Z, hZ⟩ : ∃ Z : Option Addr, (if capd = k then some (⟨gd, 0, none⟩ : Addr) else some ⟨gd, k, none⟩) = Z := ⟨_, rfl⟩
        have HNE : Hid (0 < B.data.length - k → Z = some ⟨gd, k, none⟩) := Lib.hid (fun h => by rw [← hZ]; exact if_neg (by omega))
        clear hnd
        refine wp_join (fun w10 => Chg F w8.drew w10 ∧ ∃ vd1 vs1, Rep w10 b (Ext F w8.drew w10) { B with base := B.base + k, data := B.data.drop k } vd1 vs1) ?_
        apply Exists.intro
        refine ⟨?_, ?_⟩
        · go_region_law ((refine step_copy_down rfl (.tmp 48) (.tmp 54) 31 31 rfl 5 Try.underlying31 info5 gd B.data.length capd k (B.data.length - k) _ R7.out.drew.rd HPM.out (one_map _ _) rfl _ _ rfl HNE.out ?_; intro w9 ho hg; have c2' := (cell_whole (R7.out.drew.heapb (.inl rfl) hg) 2).trans (rfl : _ = some (Value.slice (some ⟨gd, 0, none⟩) B.data.length capd)); have fr' := frozen_whole (R7.out.drew.heapb (.inl rfl) hg)))
          all_goals
            have N1 := Rep.cutData R7.out.drew k HML.out hg ho
            exact ⟨rfl, N1.1, _, _, N1.2⟩
        · rintro w10 ⟨hC1, vd1, vs1, hR1⟩
          have C8 := Lib.hid (C7.out.trans1 ((Chg.refl F w8).drew.trans1 hC1))
          have Z8 : Hid (w.heap.size ≤ w8.drew.heap.size) := Lib.hid C7.out.size
          have ZZ := Lib.hid hC1.size
          have R8 := Lib.hid hR1
          clear c2 fr hC1 hR1 R7
          clear hmc hkl hnd2
          go_wp2
          obtain ⟨c0, c1, c2, c3, c4, c5, c6, fr⟩ := R8.out.facts
          clear c0 c1 c2 c4 c5 c6
          have FIN : Hid (∀ w12, Chg (Ext F w8.drew w10) w10.drew w12 → (∃ vd2 vs2, Rep w12 b (Ext (Ext F w8.drew w10) w10.drew w12) { B with base := B.base + k, data := B.data.drop k, st := B.st.drop k } vd2 vs2) → Chg F w w12 ∧ Inv w12 b (Ext F w w12) (dropB B)) := Lib.hid (fun w12 hC2 ⟨vd2, vs2, hR2⟩ => ⟨C8.out.drew.trans (hC2.mono (ext_left Z8.out)), vd2, vs2, by rw [HD.out]; exact hR2.ext (ext_ext (w1 := w8.drew) Z8.out ZZ.out hC2.size)⟩)
          clear C8 ZZ Z8
          rcases R8.out.rs.2 with ⟨e, e0⟩ | ⟨gs, caps2, cur, e, _, _, hnd, hcd, _⟩
          · exact absurd HSP.out (by rw [show B.st.length = 0 from e0]; decide)
          · subst e
            unfold maxLen at hcd
            have hkl := HSL.out
            have hnd2 : B.st.length ≤ caps2 := hnd
            have hmc : B.st.length - k ≤ caps2 := by omega
            have HPM2 : Hid (k + (B.st.length - k) = B.st.length) := Lib.hid (by omega)
            have HML2 : Hid (B.st.length - k = (B.st.drop k).length) := Lib.hid (by rw [List.length_drop])
            obtain ⟨Z2, hZ2⟩ : ∃ Z : Option Addr, (if caps2 = k then some (⟨gs, 0, none⟩ : Addr) else some ⟨gs, k, none⟩) = Z := ⟨_, rfl⟩
            have HNE2 : Hid (0 < B.st.length - k → Z2 = some ⟨gs, k, none⟩) := Lib.hid (fun h => by rw [← hZ2]; exact if_neg (by omega))
            clear hnd
            refine wp_join (fun w12 => Chg (Ext F w8.drew w10) w10.drew w12 ∧ ∃ vd1 vs1, Rep w12 b (Ext (Ext F w8.drew w10) w10.drew w12) { B with base := B.base + k, data := B.data.drop k, st := B.st.drop k } vd1 vs1) ?_
            apply Exists.intro
            refine ⟨?_, ?_⟩
            · go_region_law ((refine step_copy_down rfl (.tmp 67) (.tmp 73) 56 56 rfl 57 Try.underlying56 info57 gs B.st.length caps2 k (B.st.length - k) _ R8.out.drew.rs HPM2.out (one_map _ _) rfl _ _ rfl HNE2.out ?_; intro w11 ho hg; have c3' := (cell_whole (R8.out.drew.heapb (.inr rfl) hg) 3).trans (rfl : _ = some (Value.slice (some ⟨gs, 0, none⟩) B.st.length caps2)); have fr' := frozen_whole (R8.out.drew.heapb (.inr rfl) hg)))
              all_goals
                have N2 := Rep.cutStates R8.out.drew k HML2.out hg ho
                exact ⟨rfl, N2.1, _, _, N2.2⟩
            · rintro w12 ⟨hC2, hR2⟩
              have FI := Lib.hid (FIN.out _ hC2 hR2)
              clear c3 fr R8 hC2 hR2
              go_wp2
              go_ret
              exact ⟨rfl, FI.out⟩
end Go.Proofs.Ytmjekepiplibkaa
