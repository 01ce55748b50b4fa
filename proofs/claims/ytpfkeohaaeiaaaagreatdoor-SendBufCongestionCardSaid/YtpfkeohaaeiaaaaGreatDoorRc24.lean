/- Texts G H I J K L of this claim, one behind the other. -/
import Derived.Test.YtpfkeohaaeiaaaaGreatDoorRc2
import Derived.Laws.Cover1
import Derived.Test.YtpfkeohaaeiaaaaGreatDoorRc11
namespace Go.Proofs.YtpfkeohaaeiaaaaGreatDoor
open Go.RowKit
set_option maxRecDepth 100000
theorem runGo_bound (most : Int) : ∀ (l : List Int) (i f t : Int), 0 ≤ f → f ≤ t → t ≤ i → 0 ≤ (runGo most l i f t).1 ∧ (runGo most l i f t).1 ≤ (runGo most l i f t).2 ∧ (runGo most l i f t).2 ≤ i + l.length := by
  intro l
  induction l with
  | nil => intro i f t h1 h2 h3; simp only [runGo]; exact ⟨h1, h2, by simp; omega⟩
  | cons s l ih =>
    intro i f t h1 h2 h3
    rw [runGo]
    simp only [List.length_cons, Int.natCast_add, Int.cast_ofNat_Int]
    split
    · exact ⟨h1, h2, by simp only []; omega⟩
    · split
      · have := ih (i + 1) i (i + 1) (by omega) (by omega) (by omega)
        exact ⟨this.1, this.2.1, by have := this.2.2; omega⟩
      · split
        · have := ih (i + 1) f (t + 1) (by omega) (by omega) (by omega)
          exact ⟨this.1, this.2.1, by have := this.2.2; omega⟩
        · have := ih (i + 1) f t (by omega) (by omega) (by omega)
          exact ⟨this.1, this.2.1, by have := this.2.2; omega⟩
theorem runF_bound (B : Bf) (most : Int) : 0 ≤ (runF B most).1 ∧ (runF B most).1 ≤ (runF B most).2 ∧ (runF B most).2 ≤ B.st.length := by
  have := runGo_bound most B.st 0 0 0 (by omega) (by omega) (by omega)
  unfold runF
  exact ⟨this.1, this.2.1, by have := this.2.2; omega⟩
/-- the frame that Next takes, as indexes -/
def nextP (B : Bf) (most credit : Int) : Option (Nat × Nat) :=
  if most < 0 then none
  else if 0 < most ∧ (runF B most).1 < (runF B most).2 then some ((runF B most).1.toNat, (runF B most).2.toNat)
  else if 0 < writtenF B - B.sent ∧ 0 < most ∧ 0 < credit then some ((B.sent - B.base).toNat, (B.sent - B.base + min (writtenF B - B.sent) (min most credit)).toNat)
  else if writtenF B - B.sent = 0 ∧ openF B = true then some ((B.sent - B.base).toNat, (B.sent - B.base).toNat)
  else none
def nextB (B : Bf) : Option (Nat × Nat) → Bf
  | none => B
  | some p => frameB B p.1 p.2
def fr0 : Fr := mkFr 0 0 ⟨#[]⟩ false
def nextR (B : Bf) : Option (Nat × Nat) → Fr
  | none => fr0
  | some p => frameR B p.1 p.2
theorem Good.frame {B : Bf} (h : Good B) {f t : Nat} (ht : t ≤ B.data.length) : Good (frameB B f t) := by
  obtain ⟨l1, l2, b0, b1, len, cp, s0, s1⟩ := h
  refine ⟨l1, l2, b0, b1, ?_, cp, ?_, ?_⟩
  · simp only [frameB, setTo_length]; exact len
  · simp only [frameB, sentUp]; split <;> omega
  · simp only [frameB, sentUp]; split <;> omega
theorem nextP_bound {B : Bf} (hg : Good B) {most credit : Int} {p : Nat × Nat} (h : nextP B most credit = some p) : p.1 ≤ p.2 ∧ p.2 ≤ B.data.length := by
  obtain ⟨l1, l2, b0, b1, len, cp, s0, s1⟩ := hg
  have hr := runF_bound B most
  unfold nextP writtenF at h
  split at h
  · cases h
  · split at h
    · cases h; simp only []; omega
    · split at h
      · cases h; simp only []; omega
      · split at h
        · cases h; simp only []; omega
        · cases h
theorem Good.next {B : Bf} (hg : Good B) (most credit : Int) : Good (nextB B (nextP B most credit)) := by
  cases h : nextP B most credit with
  | none => exact hg
  | some p => exact hg.frame (nextP_bound hg h).2
def Own (w : World) (F : Nat → Prop) (k : Nat) : Prop := F k ∧ k < w.heap.size
theorem Inv.own {w : World} {b : Nat} {F : Nat → Prop} {B : Bf} (h : Inv w b F B) : Inv w b (Own w F) B := by
  obtain ⟨vd, vs, h⟩ := h
  exact ⟨vd, vs, h.obj, h.rd, h.rs, ⟨h.fb, heap_lt h.obj⟩, fun k hk => ⟨⟨(h.fd k hk).1, own_lt h.rd k hk⟩, (h.fd k hk).2⟩, fun k hk => ⟨⟨(h.fs k hk).1, own_lt h.rs k hk⟩, (h.fs k hk).2⟩⟩
/-- the result's own cell: made first, set last -/
theorem next_glue {w w1 w2 : World} {b : Nat} {F : Nat → Prop} {B : Bf} (h0 : Below w.heap.size w w1) (hz : w1.heap.size = w.heap.size + 1) (hC : Chg (Own w F) w1 w2) (hI : Inv w2 b (Ext (Own w F) w1 w2) B) (cs : Array Value) :
    Chg F w (w2.setRow w.heap.size cs) ∧ Inv (w2.setRow w.heap.size cs) b (Ext F w (w2.setRow w.heap.size cs)) B := by
  have hs := hC.size
  refine ⟨?_, ?_⟩
  · refine Chg.setRow ⟨hC.os.trans h0.os, hC.tape.trans h0.tape, hC.output.trans h0.output, by omega, fun k hk hf => ?_⟩ _ _ (Nat.le_refl _)
    exact (hC.block k (by omega) (fun e => hf e.1)).trans (h0.block k hk)
  · obtain ⟨vd, vs, hI⟩ := hI
    have hne : ∀ k, Ext (Own w F) w1 w2 k → k ≠ w.heap.size := fun k hk e => by rcases hk with hk | hk; exact Nat.lt_irrefl _ (e ▸ hk.2); omega
    refine ⟨vd, vs, (hI.far (fun k hk => setRow_other _ _ k _ (hne k ?_))).ext (fun k hk => ?_)⟩
    · rcases hk with rfl | hk | hk
      · exact hI.fb
      · exact (hI.fd k hk).1
      · exact (hI.fs k hk).1
    · rcases hk with hk | hk
      · exact .inl hk.1
      · exact .inr ⟨by omega, by simpa using hk.2⟩
theorem results_cell_tmp {P : Program} {fn : Func} {p q : Tmp} {ty : TypeId} (h : fn.results = #[.cell p ty, .tmp q]) (tmps : Array Value) (w : World) (g : Nat) (t : TypeId) (cs : Array Value) (fr : Nat × Nat) (d : TypeDesc)
    (hp : tmps.getD p undef = .pointer (some ⟨g, 0, none⟩)) (hg : w.heap[g]? = some (.cells cs t fr))
    (hu : P.underlying ty = some d) (hd : (match d with | .struct _ | .array _ _ => true | _ => false) = true) (hi : (P.info? ty).map (·.size) = some cs.size) :
    (results fn tmps).run P w = .ok (.tuple #[.agg cs, tmps.getD q undef]) w := by
  have hp' : tmps[p]?.getD undef = .pointer (some ⟨g, 0, none⟩) := by simpa using hp
  simp [results, h, hp', asAddr, run_loadVar_row w g t ty cs fr d hg hu hd hi]
theorem Inv.ext {w : World} {b : Nat} {F G : Nat → Prop} {B : Bf} (h : Inv w b F B) (hs : ∀ k, F k → G k) : Inv w b G B := by obtain ⟨vd, vs, h⟩ := h; exact ⟨vd, vs, h.ext hs⟩
end Go.Proofs.YtpfkeohaaeiaaaaGreatDoor
namespace Go.Proofs.YtpfkeohaaeiaaaaGreatDoor
open Go.RowKit
set_option maxRecDepth 100000
def nextE (B : Bf) (P : Option (Nat × Nat)) : Ending := .returned (.tuple #[(nextR B P).val, .bool P.isSome])
def NextPost (b : Nat) (F : Nat → Prop) (B : Bf) (P : Option (Nat × Nat)) (w : World) (e : Ending) (w' : World) : Prop := e = nextE B P ∧ Chg F w w' ∧ Inv w' b (Ext F w w') (nextB B P)
set_option maxHeartbeats 4000000 in
theorem next_neg (b : Nat) (F : Nat → Prop) (B : Bf) (most credit : Int) (w : World) (h : Inv w b F B) (hm : most < 0) :
    Calls Tryz.prog 24 #[.pointer (some ⟨b, 0, none⟩), .int .i64 most, .int .i64 credit] w (NextPost b F B none w) := by
  have H0 : Below w.heap.size w (w.alloc (.cells fr0.cells 56)) := (Below.refl _ w).alloc (Nat.le_refl _) _
  have HI : Hid (Chg F w (w.alloc (.cells fr0.cells 56)) ∧ Inv (w.alloc (.cells fr0.cells 56)) b (Ext F w (w.alloc (.cells fr0.cells 56))) B) := Lib.hid ⟨Chg.below H0, (h.below H0).ext (fun k hk => .inl hk)⟩
  have HQ := Lib.hid (heap_alloc_new w (.cells fr0.cells 56))
  go_enter Tryz.func24, Tryz.ntmps24
  go_wp2
  exact bodyPost_ret (results_cell_tmp rfl _ _ w.heap.size 56 fr0.cells (0, 0) _ rfl HQ.out Tryz.underlying56 rfl (size56 _)) rfl ⟨rfl, HI.out⟩
set_option maxHeartbeats 4000000 in
theorem next_run (b : Nat) (F : Nat → Prop) (B : Bf) (most credit : Int) (w : World) (h : Inv w b F B) (hg : Good B) (hm : 0 < most) (f t : Nat) (hf : (runF B most).1 = f) (ht : (runF B most).2 = t) (hft : f < t) :
    Calls Tryz.prog 24 #[.pointer (some ⟨b, 0, none⟩), .int .i64 most, .int .i64 credit] w (NextPost b F B (some (f, t)) w) := by
  have hrb := runF_bound B most
  have htl : t ≤ B.data.length := by have := hg.len; omega
  have H0 : Below w.heap.size w (w.alloc (.cells fr0.cells 56)) := (Below.refl _ w).alloc (Nat.le_refl _) _
  have HI := Lib.hid (fun w2 => @next_glue w _ w2 b F (frameB B f t) H0 (by simp))
  have HQ := Lib.hid (heap_alloc_new w (.cells fr0.cells 56))
  have HZ : Hid ((w.alloc (.cells fr0.cells 56)).heap.size = w.heap.size + 1) := Lib.hid (by simp)
  have RN := Lib.hid (run_any b F B most (w.alloc (.cells fr0.cells 56)) (h.below H0) hg)
  have FR := Lib.hid (frame_any b (Own w F) B f t (w.alloc (.cells fr0.cells 56)) (h.own.below H0) hg (by omega) htl)
  rw [hf, ht] at RN
  clear hrb hf ht h hg htl
  go_enter Tryz.func24, Tryz.ntmps24
  go_wp2_with (first | (go_at_call 47; refine RN.out.mono ?_; rintro e w1 ⟨rfl, rfl⟩) | (go_at_call 48; refine FR.out.mono ?_; rintro e w2 ⟨rfl, hC, hI⟩; have GL := Lib.hid (HI.out w2 hC hI); have HQ2 := Lib.hid ((hC.block w.heap.size (by rw [HZ.out]; omega) (fun e => Nat.lt_irrefl _ e.2)).trans HQ.out)) | (refine wpList_store_row rfl 56 _ _ rfl w.heap.size _ rfl rfl 56 _ HQ2.out (size56 _) rfl (one35 _ _ _ _) ?_))
  exact bodyPost_ret (results_cell_tmp rfl _ _ w.heap.size 56 (frameR B f t).cells (0, 0) _ rfl (setRow_heap _ _ _ _ 56 _ HQ2.out) Tryz.underlying56 rfl (size56 _)) rfl ⟨rfl, GL.out _⟩
end Go.Proofs.YtpfkeohaaeiaaaaGreatDoor
namespace Go.Proofs.YtpfkeohaaeiaaaaGreatDoor
open Go.RowKit
set_option maxRecDepth 100000
theorem next_glue2 {w w1 w2 : World} {b : Nat} {F : Nat → Prop} {B : Bf} {o : Obj} (h0 : Below w.heap.size w w1) (hz : w1.heap.size = w.heap.size + 1) (hq : w1.heap[w.heap.size]? = some o) (hC : Chg (Own w F) w1 w2) (hI : Inv w2 b (Ext (Own w F) w1 w2) B) :
    w2.heap[w.heap.size]? = some o ∧ ∀ cs : Array Value, Chg F w (w2.setRow w.heap.size cs) ∧ Inv (w2.setRow w.heap.size cs) b (Ext F w (w2.setRow w.heap.size cs)) B :=
  ⟨(hC.block w.heap.size (by omega) (fun e => Nat.lt_irrefl _ e.2)).trans hq, next_glue h0 hz hC hI⟩
set_option maxHeartbeats 8000000 in
theorem next_new (b : Nat) (F : Nat → Prop) (B : Bf) (most credit : Int) (w : World) (h : Inv w b F B) (hg : Good B) (hm : 0 < most) (hft : ¬ ((runF B most).1 < (runF B most).2)) (R f : Nat) (hR : writtenF B - B.sent = R) (hf : B.sent - B.base = f) (n : Nat) (hn : min (R : Int) (min most credit) = n) (h1 : 0 < R) (h3 : 0 < credit) :
    Calls Tryz.prog 24 #[.pointer (some ⟨b, 0, none⟩), .int .i64 most, .int .i64 credit] w (NextPost b F B (some (f, f + n)) w) := by
  have H0 : Below w.heap.size w (w.alloc (.cells fr0.cells 56)) := (Below.refl _ w).alloc (Nat.le_refl _) _
  have HQ := Lib.hid (heap_alloc_new w (.cells fr0.cells 56))
  have HZ : Hid ((w.alloc (.cells fr0.cells 56)).heap.size = w.heap.size + 1) := Lib.hid (by simp)
  have RN := Lib.hid (run_any b F B most (w.alloc (.cells fr0.cells 56)) (h.below H0) hg)
  have WR := Lib.hid (fun k => written_any b F B ((w.alloc (.cells fr0.cells 56)).drewN k) ((h.below H0).drewN k) hg)
  have OP := Lib.hid (fun k => open_any b F B ((w.alloc (.cells fr0.cells 56)).drewN k) ((h.below H0).drewN k))
  have hw1 : IntKind.i64.wrap (writtenF B - B.sent) = (R : Int) := by rw [← hR]; exact IntWalk.i64_in _ (by have := hg.b1; have := hg.l2; have := hg.b0; have := hg.cap; have := hg.s0; have := hg.s1; unfold writtenF; omega)
  have hw2 : IntKind.i64.wrap (B.sent - B.base) = (f : Int) := by rw [← hf]; exact IntWalk.i64_in _ (by have := hg.b1; have := hg.l2; have := hg.b0; have := hg.cap; have := hg.s0; have := hg.s1; omega)
  have hb : f + R = B.data.length := by have := hg.s0; have := hg.s1; unfold writtenF at hR; omega
  have hl9 : B.data.length ≤ 8192 := by have := hg.cap; have := hg.l2; omega
  have HI0 := Lib.hid (h.own.below H0)
  have hnR : n ≤ R := by omega
  have hw3 : IntKind.i64.wrap ((f : Int) + (n : Int)) = (f : Int) + (n : Int) := IntWalk.i64_in _ (by omega)
  have FRM := Lib.hid (fun w2 hI => frame_any b (Own w F) B f (f + n) w2 hI hg (by omega) (by omega))
  rw [show (((f + n : Nat) : Int)) = (f : Int) + (n : Int) from by omega] at FRM
  obtain ⟨m1, hm1⟩ : ∃ m1, (if most < (R : Int) then most else (R : Int)) = m1 := ⟨_, rfl⟩
  have hm2 : (if credit < m1 then credit else m1) = (n : Int) := by split at hm1 <;> split <;> omega
  clear hn
  have HA := Lib.hid h
  obtain ⟨vd, vs, h⟩ := h
  have R1 := (h.below H0).facts
  obtain ⟨c0, c1, c2, c3, c4, c5, c6, fr⟩ := R1
  clear c0 c2 c3 c5 c6 fr hR hf h hg
  generalize writtenF B = wn at *
  generalize (runF B most).1 = x at *
  generalize (runF B most).2 = y at *
  go_enter Tryz.func24, Tryz.ntmps24
  go_wp2_with (go_at_call 47; refine RN.out.mono ?_; rintro e w1 ⟨rfl, rfl⟩)
  go_quiet ((go_at_call 49; exact Calls.quiet_of (WR.out _)))
  go_wp2
  go_quiet (fail)
  go_wp2_with (first | (go_at_call 48; refine (FRM.out _ (HI0.out.drewN _)).mono ?_; rintro e w2 ⟨rfl, hC, hI⟩; have GL := Lib.hid (next_glue2 (belowN H0 _) HZ.out HQ.out hC hI)) | (refine wpList_store_row rfl 56 _ _ rfl w.heap.size _ rfl rfl 56 _ GL.out.1 (size56 _) rfl (one35 _ _ _ _) ?_))
  refine bodyPost_ret (results_cell_tmp rfl _ _ w.heap.size 56 (frameR B f (f + n)).cells (0, 0) _ rfl (setRow_heap _ _ _ _ 56 _ GL.out.1) Tryz.underlying56 rfl (size56 _)) rfl ⟨?_, GL.out.2 _⟩
  rfl
set_option maxHeartbeats 8000000 in
theorem next_end0 (b : Nat) (F : Nat → Prop) (B : Bf) (most credit : Int) (w : World) (h : Inv w b F B) (hg : Good B) (hm : most = 0) (R f : Nat) (hR : writtenF B - B.sent = R) (hf : B.sent - B.base = f) (h1 : R = 0) (h2 : openF B = true) :
    Calls Tryz.prog 24 #[.pointer (some ⟨b, 0, none⟩), .int .i64 most, .int .i64 credit] w (NextPost b F B (some (f, f)) w) := by
  have H0 : Below w.heap.size w (w.alloc (.cells fr0.cells 56)) := (Below.refl _ w).alloc (Nat.le_refl _) _
  have HQ := Lib.hid (heap_alloc_new w (.cells fr0.cells 56))
  have HZ : Hid ((w.alloc (.cells fr0.cells 56)).heap.size = w.heap.size + 1) := Lib.hid (by simp)
  have RN := Lib.hid (run_any b F B most (w.alloc (.cells fr0.cells 56)) (h.below H0) hg)
  have WR := Lib.hid (fun k => written_any b F B ((w.alloc (.cells fr0.cells 56)).drewN k) ((h.below H0).drewN k) hg)
  have OP := Lib.hid (fun k => open_any b F B ((w.alloc (.cells fr0.cells 56)).drewN k) ((h.below H0).drewN k))
  have hw1 : IntKind.i64.wrap (writtenF B - B.sent) = (R : Int) := by rw [← hR]; exact IntWalk.i64_in _ (by have := hg.b1; have := hg.l2; have := hg.b0; have := hg.cap; have := hg.s0; have := hg.s1; unfold writtenF; omega)
  have hw2 : IntKind.i64.wrap (B.sent - B.base) = (f : Int) := by rw [← hf]; exact IntWalk.i64_in _ (by have := hg.b1; have := hg.l2; have := hg.b0; have := hg.cap; have := hg.s0; have := hg.s1; omega)
  have hb : f + R = B.data.length := by have := hg.s0; have := hg.s1; unfold writtenF at hR; omega
  have hl9 : B.data.length ≤ 8192 := by have := hg.cap; have := hg.l2; omega
  have HI0 := Lib.hid (h.own.below H0)
  have FRM := Lib.hid (fun w2 hI => frame_any b (Own w F) B f f w2 hI hg (by omega) (by omega))
  rw [h2] at OP
  subst h1
  have HA := Lib.hid h
  obtain ⟨vd, vs, h⟩ := h
  have R1 := (h.below H0).facts
  obtain ⟨c0, c1, c2, c3, c4, c5, c6, fr⟩ := R1
  clear c0 c2 c3 c5 c6 fr hR hf h hg
  generalize writtenF B = wn at *
  subst hm
  go_enter Tryz.func24, Tryz.ntmps24
  go_wp2
  change Code.wp _ _ _ _ (w.alloc (.cells fr0.cells 56))
  go_quiet ((go_at_call 49; exact Calls.quiet_of (WR.out _)))
  go_wp2
  go_quiet (fail)
  go_wp2_with (first | (go_at_call 50; refine (OP.out _).mono ?_; rintro e w2 ⟨rfl, rfl⟩) | (go_at_call 48; refine (FRM.out _ (HI0.out.drewN _)).mono ?_; rintro e w2 ⟨rfl, hC, hI⟩; have GL := Lib.hid (next_glue2 (belowN H0 _) HZ.out HQ.out hC hI)) | (refine wpList_store_row rfl 56 _ _ rfl w.heap.size _ rfl rfl 56 _ GL.out.1 (size56 _) rfl (one35 _ _ _ _) ?_))
  refine bodyPost_ret (results_cell_tmp rfl _ _ w.heap.size 56 (frameR B f f).cells (0, 0) _ rfl (setRow_heap _ _ _ _ 56 _ GL.out.1) Tryz.underlying56 rfl (size56 _)) rfl ⟨?_, GL.out.2 _⟩
  rfl
set_option maxHeartbeats 8000000 in
theorem next_end1 (b : Nat) (F : Nat → Prop) (B : Bf) (most credit : Int) (w : World) (h : Inv w b F B) (hg : Good B) (hm : 0 < most) (hft : ¬ ((runF B most).1 < (runF B most).2)) (R f : Nat) (hR : writtenF B - B.sent = R) (hf : B.sent - B.base = f) (h1 : R = 0) (h2 : openF B = true) :
    Calls Tryz.prog 24 #[.pointer (some ⟨b, 0, none⟩), .int .i64 most, .int .i64 credit] w (NextPost b F B (some (f, f)) w) := by
  have H0 : Below w.heap.size w (w.alloc (.cells fr0.cells 56)) := (Below.refl _ w).alloc (Nat.le_refl _) _
  have HQ := Lib.hid (heap_alloc_new w (.cells fr0.cells 56))
  have HZ : Hid ((w.alloc (.cells fr0.cells 56)).heap.size = w.heap.size + 1) := Lib.hid (by simp)
  have RN := Lib.hid (run_any b F B most (w.alloc (.cells fr0.cells 56)) (h.below H0) hg)
  have WR := Lib.hid (fun k => written_any b F B ((w.alloc (.cells fr0.cells 56)).drewN k) ((h.below H0).drewN k) hg)
  have OP := Lib.hid (fun k => open_any b F B ((w.alloc (.cells fr0.cells 56)).drewN k) ((h.below H0).drewN k))
  have hw1 : IntKind.i64.wrap (writtenF B - B.sent) = (R : Int) := by rw [← hR]; exact IntWalk.i64_in _ (by have := hg.b1; have := hg.l2; have := hg.b0; have := hg.cap; have := hg.s0; have := hg.s1; unfold writtenF; omega)
  have hw2 : IntKind.i64.wrap (B.sent - B.base) = (f : Int) := by rw [← hf]; exact IntWalk.i64_in _ (by have := hg.b1; have := hg.l2; have := hg.b0; have := hg.cap; have := hg.s0; have := hg.s1; omega)
  have hb : f + R = B.data.length := by have := hg.s0; have := hg.s1; unfold writtenF at hR; omega
  have hl9 : B.data.length ≤ 8192 := by have := hg.cap; have := hg.l2; omega
  have HI0 := Lib.hid (h.own.below H0)
  have FRM := Lib.hid (fun w2 hI => frame_any b (Own w F) B f f w2 hI hg (by omega) (by omega))
  rw [h2] at OP
  subst h1
  have HA := Lib.hid h
  obtain ⟨vd, vs, h⟩ := h
  have R1 := (h.below H0).facts
  obtain ⟨c0, c1, c2, c3, c4, c5, c6, fr⟩ := R1
  clear c0 c2 c3 c5 c6 fr hR hf h hg
  generalize writtenF B = wn at *
  generalize (runF B most).1 = x at *
  generalize (runF B most).2 = y at *
  go_enter Tryz.func24, Tryz.ntmps24
  go_wp2_with (go_at_call 47; refine RN.out.mono ?_; rintro e w1 ⟨rfl, rfl⟩)
  go_quiet ((go_at_call 49; exact Calls.quiet_of (WR.out _)))
  go_wp2
  go_quiet (fail)
  go_wp2_with (first | (go_at_call 50; refine (OP.out _).mono ?_; rintro e w2 ⟨rfl, rfl⟩) | (go_at_call 48; refine (FRM.out _ (HI0.out.drewN _)).mono ?_; rintro e w2 ⟨rfl, hC, hI⟩; have GL := Lib.hid (next_glue2 (belowN H0 _) HZ.out HQ.out hC hI)) | (refine wpList_store_row rfl 56 _ _ rfl w.heap.size _ rfl rfl 56 _ GL.out.1 (size56 _) rfl (one35 _ _ _ _) ?_))
  refine bodyPost_ret (results_cell_tmp rfl _ _ w.heap.size 56 (frameR B f f).cells (0, 0) _ rfl (setRow_heap _ _ _ _ 56 _ GL.out.1) Tryz.underlying56 rfl (size56 _)) rfl ⟨?_, GL.out.2 _⟩
  rfl
set_option maxHeartbeats 8000000 in
theorem next_shut0 (b : Nat) (F : Nat → Prop) (B : Bf) (most credit : Int) (w : World) (h : Inv w b F B) (hg : Good B) (hm : most = 0) (R f : Nat) (hR : writtenF B - B.sent = R) (hf : B.sent - B.base = f) (h1 : R = 0) (h2 : openF B = false) :
    Calls Tryz.prog 24 #[.pointer (some ⟨b, 0, none⟩), .int .i64 most, .int .i64 credit] w (NextPost b F B none w) := by
  have H0 : Below w.heap.size w (w.alloc (.cells fr0.cells 56)) := (Below.refl _ w).alloc (Nat.le_refl _) _
  have HQ := Lib.hid (heap_alloc_new w (.cells fr0.cells 56))
  have HZ : Hid ((w.alloc (.cells fr0.cells 56)).heap.size = w.heap.size + 1) := Lib.hid (by simp)
  have RN := Lib.hid (run_any b F B most (w.alloc (.cells fr0.cells 56)) (h.below H0) hg)
  have WR := Lib.hid (fun k => written_any b F B ((w.alloc (.cells fr0.cells 56)).drewN k) ((h.below H0).drewN k) hg)
  have OP := Lib.hid (fun k => open_any b F B ((w.alloc (.cells fr0.cells 56)).drewN k) ((h.below H0).drewN k))
  have hw1 : IntKind.i64.wrap (writtenF B - B.sent) = (R : Int) := by rw [← hR]; exact IntWalk.i64_in _ (by have := hg.b1; have := hg.l2; have := hg.b0; have := hg.cap; have := hg.s0; have := hg.s1; unfold writtenF; omega)
  have hw2 : IntKind.i64.wrap (B.sent - B.base) = (f : Int) := by rw [← hf]; exact IntWalk.i64_in _ (by have := hg.b1; have := hg.l2; have := hg.b0; have := hg.cap; have := hg.s0; have := hg.s1; omega)
  have hb : f + R = B.data.length := by have := hg.s0; have := hg.s1; unfold writtenF at hR; omega
  have hl9 : B.data.length ≤ 8192 := by have := hg.cap; have := hg.l2; omega
  have HI0 := Lib.hid (h.own.below H0)
  have HQK : Hid (∀ k, ((w.alloc (.cells fr0.cells 56)).drewN k).heap[w.heap.size]? = some (.cells fr0.cells 56 (0, 0))) := Lib.hid (fun _ => HQ.out)
  have NG : Hid (∀ k cs, Chg F w (((w.alloc (.cells fr0.cells 56)).drewN k).setRow w.heap.size cs) ∧ Inv (((w.alloc (.cells fr0.cells 56)).drewN k).setRow w.heap.size cs) b (Ext F w (((w.alloc (.cells fr0.cells 56)).drewN k).setRow w.heap.size cs)) B) := Lib.hid (fun k cs => (next_glue2 (o := .cells fr0.cells 56) (belowN H0 k) HZ.out HQ.out (Chg.refl _ _) ((HI0.out.drewN k).ext (fun j hj => .inl hj))).2 cs)
  rw [h2] at OP
  subst h1
  have HA := Lib.hid h
  obtain ⟨vd, vs, h⟩ := h
  have R1 := (h.below H0).facts
  obtain ⟨c0, c1, c2, c3, c4, c5, c6, fr⟩ := R1
  clear c0 c2 c3 c5 c6 fr hR hf h hg
  generalize writtenF B = wn at *
  subst hm
  go_enter Tryz.func24, Tryz.ntmps24
  go_wp2
  change Code.wp _ _ _ _ (w.alloc (.cells fr0.cells 56))
  go_quiet ((go_at_call 49; exact Calls.quiet_of (WR.out _)))
  go_wp2
  go_quiet (fail)
  go_wp2_with (first | (go_at_call 50; refine (OP.out _).mono ?_; rintro e w2 ⟨rfl, rfl⟩) | (refine wpList_store_row rfl 56 _ _ rfl w.heap.size fr0.cells rfl rfl 56 _ (HQK.out _) (size56 fr0) rfl (one35 0 0 ⟨#[]⟩ false) ?_))
  refine bodyPost_ret (results_cell_tmp rfl _ _ w.heap.size 56 fr0.cells (0, 0) _ rfl (setRow_heap _ _ _ _ 56 _ (HQK.out _)) Tryz.underlying56 rfl (size56 _)) rfl ⟨?_, NG.out _ _⟩
  rfl
set_option maxHeartbeats 8000000 in
theorem next_shut1 (b : Nat) (F : Nat → Prop) (B : Bf) (most credit : Int) (w : World) (h : Inv w b F B) (hg : Good B) (hm : 0 < most) (hft : ¬ ((runF B most).1 < (runF B most).2)) (R f : Nat) (hR : writtenF B - B.sent = R) (hf : B.sent - B.base = f) (h1 : R = 0) (h2 : openF B = false) :
    Calls Tryz.prog 24 #[.pointer (some ⟨b, 0, none⟩), .int .i64 most, .int .i64 credit] w (NextPost b F B none w) := by
  have H0 : Below w.heap.size w (w.alloc (.cells fr0.cells 56)) := (Below.refl _ w).alloc (Nat.le_refl _) _
  have HQ := Lib.hid (heap_alloc_new w (.cells fr0.cells 56))
  have HZ : Hid ((w.alloc (.cells fr0.cells 56)).heap.size = w.heap.size + 1) := Lib.hid (by simp)
  have RN := Lib.hid (run_any b F B most (w.alloc (.cells fr0.cells 56)) (h.below H0) hg)
  have WR := Lib.hid (fun k => written_any b F B ((w.alloc (.cells fr0.cells 56)).drewN k) ((h.below H0).drewN k) hg)
  have OP := Lib.hid (fun k => open_any b F B ((w.alloc (.cells fr0.cells 56)).drewN k) ((h.below H0).drewN k))
  have hw1 : IntKind.i64.wrap (writtenF B - B.sent) = (R : Int) := by rw [← hR]; exact IntWalk.i64_in _ (by have := hg.b1; have := hg.l2; have := hg.b0; have := hg.cap; have := hg.s0; have := hg.s1; unfold writtenF; omega)
  have hw2 : IntKind.i64.wrap (B.sent - B.base) = (f : Int) := by rw [← hf]; exact IntWalk.i64_in _ (by have := hg.b1; have := hg.l2; have := hg.b0; have := hg.cap; have := hg.s0; have := hg.s1; omega)
  have hb : f + R = B.data.length := by have := hg.s0; have := hg.s1; unfold writtenF at hR; omega
  have hl9 : B.data.length ≤ 8192 := by have := hg.cap; have := hg.l2; omega
  have HI0 := Lib.hid (h.own.below H0)
  have HQK : Hid (∀ k, ((w.alloc (.cells fr0.cells 56)).drewN k).heap[w.heap.size]? = some (.cells fr0.cells 56 (0, 0))) := Lib.hid (fun _ => HQ.out)
  have NG : Hid (∀ k cs, Chg F w (((w.alloc (.cells fr0.cells 56)).drewN k).setRow w.heap.size cs) ∧ Inv (((w.alloc (.cells fr0.cells 56)).drewN k).setRow w.heap.size cs) b (Ext F w (((w.alloc (.cells fr0.cells 56)).drewN k).setRow w.heap.size cs)) B) := Lib.hid (fun k cs => (next_glue2 (o := .cells fr0.cells 56) (belowN H0 k) HZ.out HQ.out (Chg.refl _ _) ((HI0.out.drewN k).ext (fun j hj => .inl hj))).2 cs)
  rw [h2] at OP
  subst h1
  have HA := Lib.hid h
  obtain ⟨vd, vs, h⟩ := h
  have R1 := (h.below H0).facts
  obtain ⟨c0, c1, c2, c3, c4, c5, c6, fr⟩ := R1
  clear c0 c2 c3 c5 c6 fr hR hf h hg
  generalize writtenF B = wn at *
  generalize (runF B most).1 = x at *
  generalize (runF B most).2 = y at *
  go_enter Tryz.func24, Tryz.ntmps24
  go_wp2_with (go_at_call 47; refine RN.out.mono ?_; rintro e w1 ⟨rfl, rfl⟩)
  go_quiet ((go_at_call 49; exact Calls.quiet_of (WR.out _)))
  go_wp2
  go_quiet (fail)
  go_wp2_with (first | (go_at_call 50; refine (OP.out _).mono ?_; rintro e w2 ⟨rfl, rfl⟩) | (refine wpList_store_row rfl 56 _ _ rfl w.heap.size fr0.cells rfl rfl 56 _ (HQK.out _) (size56 fr0) rfl (one35 0 0 ⟨#[]⟩ false) ?_))
  refine bodyPost_ret (results_cell_tmp rfl _ _ w.heap.size 56 fr0.cells (0, 0) _ rfl (setRow_heap _ _ _ _ 56 _ (HQK.out _)) Tryz.underlying56 rfl (size56 _)) rfl ⟨?_, NG.out _ _⟩
  rfl
set_option maxHeartbeats 8000000 in
theorem next_low0 (b : Nat) (F : Nat → Prop) (B : Bf) (most credit : Int) (w : World) (h : Inv w b F B) (hg : Good B) (hm : most = 0) (R f : Nat) (hR : writtenF B - B.sent = R) (hf : B.sent - B.base = f) (h1 : 0 < R) :
    Calls Tryz.prog 24 #[.pointer (some ⟨b, 0, none⟩), .int .i64 most, .int .i64 credit] w (NextPost b F B none w) := by
  have H0 : Below w.heap.size w (w.alloc (.cells fr0.cells 56)) := (Below.refl _ w).alloc (Nat.le_refl _) _
  have HQ := Lib.hid (heap_alloc_new w (.cells fr0.cells 56))
  have HZ : Hid ((w.alloc (.cells fr0.cells 56)).heap.size = w.heap.size + 1) := Lib.hid (by simp)
  have RN := Lib.hid (run_any b F B most (w.alloc (.cells fr0.cells 56)) (h.below H0) hg)
  have WR := Lib.hid (fun k => written_any b F B ((w.alloc (.cells fr0.cells 56)).drewN k) ((h.below H0).drewN k) hg)
  have OP := Lib.hid (fun k => open_any b F B ((w.alloc (.cells fr0.cells 56)).drewN k) ((h.below H0).drewN k))
  have hw1 : IntKind.i64.wrap (writtenF B - B.sent) = (R : Int) := by rw [← hR]; exact IntWalk.i64_in _ (by have := hg.b1; have := hg.l2; have := hg.b0; have := hg.cap; have := hg.s0; have := hg.s1; unfold writtenF; omega)
  have hw2 : IntKind.i64.wrap (B.sent - B.base) = (f : Int) := by rw [← hf]; exact IntWalk.i64_in _ (by have := hg.b1; have := hg.l2; have := hg.b0; have := hg.cap; have := hg.s0; have := hg.s1; omega)
  have hb : f + R = B.data.length := by have := hg.s0; have := hg.s1; unfold writtenF at hR; omega
  have hl9 : B.data.length ≤ 8192 := by have := hg.cap; have := hg.l2; omega
  have HI0 := Lib.hid (h.own.below H0)
  have HQK : Hid (∀ k, ((w.alloc (.cells fr0.cells 56)).drewN k).heap[w.heap.size]? = some (.cells fr0.cells 56 (0, 0))) := Lib.hid (fun _ => HQ.out)
  have NG : Hid (∀ k cs, Chg F w (((w.alloc (.cells fr0.cells 56)).drewN k).setRow w.heap.size cs) ∧ Inv (((w.alloc (.cells fr0.cells 56)).drewN k).setRow w.heap.size cs) b (Ext F w (((w.alloc (.cells fr0.cells 56)).drewN k).setRow w.heap.size cs)) B) := Lib.hid (fun k cs => (next_glue2 (o := .cells fr0.cells 56) (belowN H0 k) HZ.out HQ.out (Chg.refl _ _) ((HI0.out.drewN k).ext (fun j hj => .inl hj))).2 cs)
  have h1i : ¬ ((R : Int) = 0) := by omega
  have HA := Lib.hid h
  obtain ⟨vd, vs, h⟩ := h
  have R1 := (h.below H0).facts
  obtain ⟨c0, c1, c2, c3, c4, c5, c6, fr⟩ := R1
  clear c0 c2 c3 c5 c6 fr hR hf h hg
  generalize writtenF B = wn at *
  subst hm
  go_enter Tryz.func24, Tryz.ntmps24
  go_wp2
  change Code.wp _ _ _ _ (w.alloc (.cells fr0.cells 56))
  go_quiet ((go_at_call 49; exact Calls.quiet_of (WR.out _)))
  go_wp2
  go_quiet (fail)
  go_wp2_with (first | (refine wpList_store_row rfl 56 _ _ rfl w.heap.size fr0.cells rfl rfl 56 _ (HQK.out _) (size56 fr0) rfl (one35 0 0 ⟨#[]⟩ false) ?_))
  refine bodyPost_ret (results_cell_tmp rfl _ _ w.heap.size 56 fr0.cells (0, 0) _ rfl (setRow_heap _ _ _ _ 56 _ (HQK.out _)) Tryz.underlying56 rfl (size56 _)) rfl ⟨?_, NG.out _ _⟩
  rfl
set_option maxHeartbeats 8000000 in
theorem next_low1 (b : Nat) (F : Nat → Prop) (B : Bf) (most credit : Int) (w : World) (h : Inv w b F B) (hg : Good B) (hm : 0 < most) (hft : ¬ ((runF B most).1 < (runF B most).2)) (R f : Nat) (hR : writtenF B - B.sent = R) (hf : B.sent - B.base = f) (h1 : 0 < R) (h3 : ¬ (0 < credit)) :
    Calls Tryz.prog 24 #[.pointer (some ⟨b, 0, none⟩), .int .i64 most, .int .i64 credit] w (NextPost b F B none w) := by
  have H0 : Below w.heap.size w (w.alloc (.cells fr0.cells 56)) := (Below.refl _ w).alloc (Nat.le_refl _) _
  have HQ := Lib.hid (heap_alloc_new w (.cells fr0.cells 56))
  have HZ : Hid ((w.alloc (.cells fr0.cells 56)).heap.size = w.heap.size + 1) := Lib.hid (by simp)
  have RN := Lib.hid (run_any b F B most (w.alloc (.cells fr0.cells 56)) (h.below H0) hg)
  have WR := Lib.hid (fun k => written_any b F B ((w.alloc (.cells fr0.cells 56)).drewN k) ((h.below H0).drewN k) hg)
  have OP := Lib.hid (fun k => open_any b F B ((w.alloc (.cells fr0.cells 56)).drewN k) ((h.below H0).drewN k))
  have hw1 : IntKind.i64.wrap (writtenF B - B.sent) = (R : Int) := by rw [← hR]; exact IntWalk.i64_in _ (by have := hg.b1; have := hg.l2; have := hg.b0; have := hg.cap; have := hg.s0; have := hg.s1; unfold writtenF; omega)
  have hw2 : IntKind.i64.wrap (B.sent - B.base) = (f : Int) := by rw [← hf]; exact IntWalk.i64_in _ (by have := hg.b1; have := hg.l2; have := hg.b0; have := hg.cap; have := hg.s0; have := hg.s1; omega)
  have hb : f + R = B.data.length := by have := hg.s0; have := hg.s1; unfold writtenF at hR; omega
  have hl9 : B.data.length ≤ 8192 := by have := hg.cap; have := hg.l2; omega
  have HI0 := Lib.hid (h.own.below H0)
  have HQK : Hid (∀ k, ((w.alloc (.cells fr0.cells 56)).drewN k).heap[w.heap.size]? = some (.cells fr0.cells 56 (0, 0))) := Lib.hid (fun _ => HQ.out)
  have NG : Hid (∀ k cs, Chg F w (((w.alloc (.cells fr0.cells 56)).drewN k).setRow w.heap.size cs) ∧ Inv (((w.alloc (.cells fr0.cells 56)).drewN k).setRow w.heap.size cs) b (Ext F w (((w.alloc (.cells fr0.cells 56)).drewN k).setRow w.heap.size cs)) B) := Lib.hid (fun k cs => (next_glue2 (o := .cells fr0.cells 56) (belowN H0 k) HZ.out HQ.out (Chg.refl _ _) ((HI0.out.drewN k).ext (fun j hj => .inl hj))).2 cs)
  have h1i : ¬ ((R : Int) = 0) := by omega
  have HA := Lib.hid h
  obtain ⟨vd, vs, h⟩ := h
  have R1 := (h.below H0).facts
  obtain ⟨c0, c1, c2, c3, c4, c5, c6, fr⟩ := R1
  clear c0 c2 c3 c5 c6 fr hR hf h hg
  generalize writtenF B = wn at *
  generalize (runF B most).1 = x at *
  generalize (runF B most).2 = y at *
  go_enter Tryz.func24, Tryz.ntmps24
  go_wp2_with (go_at_call 47; refine RN.out.mono ?_; rintro e w1 ⟨rfl, rfl⟩)
  go_quiet ((go_at_call 49; exact Calls.quiet_of (WR.out _)))
  go_wp2
  go_quiet (fail)
  go_wp2_with (first | (refine wpList_store_row rfl 56 _ _ rfl w.heap.size fr0.cells rfl rfl 56 _ (HQK.out _) (size56 fr0) rfl (one35 0 0 ⟨#[]⟩ false) ?_))
  refine bodyPost_ret (results_cell_tmp rfl _ _ w.heap.size 56 fr0.cells (0, 0) _ rfl (setRow_heap _ _ _ _ 56 _ (HQK.out _)) Tryz.underlying56 rfl (size56 _)) rfl ⟨?_, NG.out _ _⟩
  rfl
theorem next_any (b : Nat) (F : Nat → Prop) (B : Bf) (most credit : Int) (w : World) (h : Inv w b F B) (hg : Good B) :
    Calls Tryz.prog 24 #[.pointer (some ⟨b, 0, none⟩), .int .i64 most, .int .i64 credit] w (NextPost b F B (nextP B most credit) w) := by
  have hrb := runF_bound B most
  have e1 := hg.s0
  have e2 := hg.s1
  unfold nextP
  by_cases hm : most < 0
  · rw [if_pos hm]
    exact next_neg b F B most credit w h hm
  · rw [if_neg hm]
    by_cases hr : 0 < most ∧ (runF B most).1 < (runF B most).2
    · rw [if_pos hr]
      exact next_run b F B most credit w h hg hr.1 _ _ (by omega) (by omega) (by omega)
    · rw [if_neg hr]
      obtain ⟨R, hR⟩ : ∃ R : Nat, writtenF B - B.sent = R := ⟨(writtenF B - B.sent).toNat, by unfold writtenF; omega⟩
      obtain ⟨f, hf⟩ : ∃ f : Nat, B.sent - B.base = f := ⟨(B.sent - B.base).toNat, by omega⟩
      by_cases hn : 0 < writtenF B - B.sent ∧ 0 < most ∧ 0 < credit
      · rw [if_pos hn]
        obtain ⟨n, hn2⟩ : ∃ n : Nat, min (R : Int) (min most credit) = n := ⟨(min (R : Int) (min most credit)).toNat, by omega⟩
        have := next_new b F B most credit w h hg hn.2.1 (by omega) R f hR hf n hn2 (by omega) hn.2.2
        rw [hR, hf, hn2, show ((f : Int)).toNat = f from by omega, show ((f : Int) + (n : Int)).toNat = f + n from by omega]
        exact this
      · rw [if_neg hn]
        by_cases ho : writtenF B - B.sent = 0 ∧ openF B = true
        · rw [if_pos ho, hf, show ((f : Int)).toNat = f from by omega]
          by_cases h0 : most = 0
          · exact next_end0 b F B most credit w h hg h0 R f hR hf (by omega) ho.2
          · exact next_end1 b F B most credit w h hg (by omega) (by omega) R f hR hf (by omega) ho.2
        · rw [if_neg ho]
          by_cases hR0 : R = 0
          · have hop : openF B = false := by cases hc : openF B; rfl; exact absurd ⟨by omega, hc⟩ ho
            by_cases h0 : most = 0
            · exact next_shut0 b F B most credit w h hg h0 R f hR hf hR0 hop
            · exact next_shut1 b F B most credit w h hg (by omega) (by omega) R f hR hf hR0 hop
          · by_cases h0 : most = 0
            · exact next_low0 b F B most credit w h hg h0 R f hR hf (by omega)
            · exact next_low1 b F B most credit w h hg (by omega) (by omega) R f hR hf (by omega) (by omega)
end Go.Proofs.YtpfkeohaaeiaaaaGreatDoor
namespace Go.Proofs.YtpfkeohaaeiaaaaGreatDoor
open Go.RowKit
set_option maxRecDepth 100000
theorem if_no {c : Prop} [Decidable c] {A B : Prop} (hc : ¬ c) (h : B) : if c then A else B := by rw [if_neg hc]; exact h
def headF (B : Bf) (f : Fr) : Bool := decide (f.ty = 8) && decide (0 ≤ f.off) && decide (f.off ≤ B.sent) && decide ((f.s.size : Int) ≤ B.sent - f.off)
def okAt (B : Bf) (f : Fr) (i : Nat) : Bool := decide (f.off + i - B.base < 0) || decide (B.data[(f.off + i - B.base).toNat]?.getD 0 = (bytesOf f.s)[i]?.getD 0)
theorem bytesOf_get (s : ByteArray) (k : Nat) (h : k < s.size) : (bytesOf s)[k]?.getD 0 = ((s[k]'h).toNat : Int) := by
  have h2 : k < s.data.toList.length := by simpa using h
  unfold bytesOf
  rw [List.getElem?_map, List.getElem?_eq_getElem h2]
  rfl
def tailF (B : Bf) (f : Fr) : Bool := !f.fin || (B.fin && decide (B.ed ≠ 0) && decide (f.off + f.s.size = writtenF B))
def fitsF (B : Bf) (f : Fr) : Bool := headF B f && (List.range f.s.size).all (okAt B f) && tailF B f
structure Boxed (w : World) (g : Nat) (f : Fr) : Prop where
  d0 : w.cell? ⟨g, 0, none⟩ = some (.int .i64 f.ty)
  d2 : w.cell? ⟨g, 2, none⟩ = some (.int .i64 f.off)
  d3 : w.cell? ⟨g, 3, none⟩ = some (.string f.s)
  d4 : w.cell? ⟨g, 4, none⟩ = some (.bool f.fin)
theorem Boxed.of {w : World} {g : Nat} {f : Fr} (h : w.heap[g]? = some (.cells f.cells 56 (0, 0))) : Boxed w g f :=
  ⟨cell_whole h 0, cell_whole h 2, cell_whole h 3, cell_whole h 4⟩
set_option maxHeartbeats 4000000 in
theorem fits_no (b : Nat) (F : Nat → Prop) (B : Bf) (f : Fr) (w : World) (h : Inv w b F B) (hg : Good B) (hh : headF B f = false) :
    Calls Tryz.prog 70 #[.pointer (some ⟨b, 0, none⟩), f.val] w fun e w' => e = .returned (.bool false) ∧ Below w.heap.size w w' := by
  have H0 : Below w.heap.size w (w.alloc (.cells f.cells 56)) := (Below.refl _ w).alloc (Nat.le_refl _) _
  obtain ⟨vd, vs, h⟩ := h
  have HB : Hid (Below w.heap.size w (w.alloc (.cells f.cells 56))) := Lib.hid H0
  obtain ⟨c0, c1, c2, c3, c4, c5, c6, fr⟩ := (h.below H0).facts
  obtain ⟨d0, d2, d3, d4⟩ := Boxed.of (heap_alloc_new w (.cells f.cells 56))
  obtain ⟨l1, l2, b0, b1, len, cp, s0, s1⟩ := hg
  clear c0 c1 c2 c3 c5 c6 fr d4
  have hcase : f.ty ≠ 8 ∨ f.ty = 8 ∧ f.off < 0 ∨ (f.ty = 8 ∧ 0 ≤ f.off ∧ B.sent < f.off) ∨ (f.ty = 8 ∧ 0 ≤ f.off ∧ f.off ≤ B.sent ∧ B.sent - f.off < (f.s.size : Int)) := by
    unfold headF at hh
    simp only [Bool.and_eq_false_iff, decide_eq_false_iff_not] at hh
    omega
  clear hh
  rcases hcase with h1 | ⟨h1, h2⟩ | ⟨h1, h2, h3⟩ | ⟨h1, h2, h3, h4⟩
  · have h1b : (f.ty != 8) = true := by simp [h1]
    clear h1 h s0 s1 l1 l2 b0 b1 len cp H0
    change Calls Tryz.prog 70 #[.pointer (some ⟨b, 0, none⟩), .agg f.cells] w _
    go_enter Tryz.func70, Tryz.ntmps70
    go_wp2
    change Code.wp _ _ _ _ (w.alloc (.cells f.cells 56))
    generalize w.alloc (.cells f.cells 56) = W1 at *
    refine wp_region_still_lit (by kernel_rfl) (by kernel_rfl) ?_
    repeat (with_reducible refine wpStill_step (fun K hK => ?_); go_simp; with_reducible refine hK _ ?_; clear hK K)
    with_reducible refine wpStill_nil ?_
    go_wp2
    go_ret
    exact ⟨rfl, HB.out.drew⟩
  · have h1b : (f.ty != 8) = false := by simp [h1]
    clear h1 h s0 s1 l1 l2 b0 b1 len cp H0
    change Calls Tryz.prog 70 #[.pointer (some ⟨b, 0, none⟩), .agg f.cells] w _
    go_enter Tryz.func70, Tryz.ntmps70
    go_wp2
    change Code.wp _ _ _ _ (w.alloc (.cells f.cells 56))
    generalize w.alloc (.cells f.cells 56) = W1 at *
    refine wp_region_still_lit (by kernel_rfl) (by kernel_rfl) ?_
    repeat (with_reducible refine wpStill_step (fun K hK => ?_); go_simp; with_reducible refine hK _ ?_; clear hK K)
    with_reducible refine wpStill_nil ?_
    go_wp2
    go_ret
    exact ⟨rfl, HB.out.drew⟩
  · have h1b : (f.ty != 8) = false := by simp [h1]
    have h2n : ¬ f.off < 0 := by omega
    clear h1 h2 h s0 s1 l1 l2 b0 b1 len cp H0
    change Calls Tryz.prog 70 #[.pointer (some ⟨b, 0, none⟩), .agg f.cells] w _
    go_enter Tryz.func70, Tryz.ntmps70
    go_wp2
    change Code.wp _ _ _ _ (w.alloc (.cells f.cells 56))
    generalize w.alloc (.cells f.cells 56) = W1 at *
    refine wp_region_still_lit (by kernel_rfl) (by kernel_rfl) ?_
    repeat (with_reducible refine wpStill_step (fun K hK => ?_); go_simp; with_reducible refine hK _ ?_; clear hK K)
    with_reducible refine wpStill_nil ?_
    go_wp2
    go_ret
    exact ⟨rfl, HB.out.drew⟩
  · have h1b : (f.ty != 8) = false := by simp [h1]
    have h2n : ¬ f.off < 0 := by omega
    have h3n : ¬ B.sent < f.off := by omega
    have hw : IntKind.i64.wrap (B.sent - f.off) = B.sent - f.off := IntWalk.i64_in _ (by omega)
    clear h1 h2 h3 h s0 s1 l1 l2 b0 b1 len cp H0
    change Calls Tryz.prog 70 #[.pointer (some ⟨b, 0, none⟩), .agg f.cells] w _
    go_enter Tryz.func70, Tryz.ntmps70
    go_wp2
    change Code.wp _ _ _ _ (w.alloc (.cells f.cells 56))
    generalize w.alloc (.cells f.cells 56) = W1 at *
    refine wp_region_still_lit (by kernel_rfl) (by kernel_rfl) ?_
    repeat (with_reducible refine wpStill_step (fun K hK => ?_); go_simp; with_reducible refine hK _ ?_; clear hK K)
    with_reducible refine wpStill_nil ?_
    go_wp2
    go_ret
    exact ⟨rfl, HB.out.drew⟩
end Go.Proofs.YtpfkeohaaeiaaaaGreatDoor
namespace Go.Proofs.YtpfkeohaaeiaaaaGreatDoor
open Go.RowKit
set_option maxRecDepth 100000
set_option maxHeartbeats 8000000 in
theorem fits_head (b : Nat) (F : Nat → Prop) (B : Bf) (f : Fr) (w : World) (h : Inv w b F B) (hg : Good B) (hh : headF B f = true) :
    Calls Tryz.prog 70 #[.pointer (some ⟨b, 0, none⟩), f.val] w fun e w' => e = .returned (.bool ((List.range f.s.size).all (okAt B f) && tailF B f)) ∧ Below w.heap.size w w' := by
  have hg0 := hg
  have H0 : Below w.heap.size w (w.alloc (.cells f.cells 56)) := (Below.refl _ w).alloc (Nat.le_refl _) _
  obtain ⟨vd, vs, h⟩ := h
  have HB : Hid (Below w.heap.size w (w.alloc (.cells f.cells 56))) := Lib.hid H0
  obtain ⟨c0, c1, c2, c3, c4, c5, c6, fr⟩ := (h.below H0).facts
  obtain ⟨d0, d2, d3, d4⟩ := Boxed.of (heap_alloc_new w (.cells f.cells 56))
  obtain ⟨l1, l2, b0, b1, len, cp, s0, s1⟩ := hg
  have HG := Lib.hid hg0
  have HR0 := Lib.hid (h.below H0)
  have HQ0 := Lib.hid (heap_alloc_new w (.cells f.cells 56))
  clear c0 c1 c2 c3 c5 c6 fr d4
  unfold headF at hh
  simp only [Bool.and_eq_true, decide_eq_true_eq] at hh
  obtain ⟨⟨⟨h1, h2⟩, h3⟩, h4⟩ := hh
  obtain ⟨n, hn⟩ : ∃ n, f.s.size = n := ⟨_, rfl⟩
  rw [hn] at h4
  rw [hn]
  have HN := Lib.hid hn
  have hn2 : (f.s.size : Int) = n := by rw [hn]
  obtain ⟨RES, hres⟩ : ∃ R, ((List.range n).all (okAt B f) && tailF B f) = R := ⟨_, rfl⟩
  rw [hres]
  have HRES := Lib.hid hres
  clear hres hn
  have h1b : (f.ty != 8) = false := by simp [h1]
  have h2n : ¬ f.off < 0 := by omega
  have h3n : ¬ B.sent < f.off := by omega
  have h4n : ¬ B.sent - f.off < (n : Int) := by omega
  have hw : IntKind.i64.wrap (B.sent - f.off) = B.sent - f.off := IntWalk.i64_in _ (by omega)
  clear h H0
  change Calls Tryz.prog 70 #[.pointer (some ⟨b, 0, none⟩), .agg f.cells] w _
  go_enter Tryz.func70, Tryz.ntmps70
  go_wp2
  change Code.wp _ _ _ _ (w.alloc (.cells f.cells 56))
  generalize w.alloc (.cells f.cells 56) = W1 at *
  refine wp_region_still_lit (by kernel_rfl) (by kernel_rfl) ?_
  repeat ((with_reducible refine wpStill_step (fun K hK => ?_)); go_simp; (with_reducible refine hK _ ?_); clear hK K)
  with_reducible refine wpStill_nil ?_
  go_wp2
  have HRS : Hid (∀ k, k < n → okAt B f k = false → RES = false) := Lib.hid (fun k hk ho => by
    rw [← HRES.out]
    have : (List.range n).all (okAt B f) = false := by
      rw [List.all_eq_false]
      exact ⟨k, List.mem_range.2 hk, by rw [ho]; decide⟩
    rw [this]; rfl)
  have HRT : Hid ((∀ j, j < n → okAt B f j = true) → RES = tailF B f) := Lib.hid (fun ho => by
    rw [← HRES.out]
    have : (List.range n).all (okAt B f) = true := by
      rw [List.all_eq_true]
      exact fun k hk => ho k (List.mem_range.1 hk)
    rw [this]; rfl)
  clear h1b h2n h3n h4n hw c4 d0 d2 d3
  go_loopw [40] (fun i wr => ∃ (k : Nat), k ≤ n ∧ i = .int .i64 k ∧ (∀ j, j < k → okAt B f j = true) ∧ Rep wr b F B vd vs ∧ wr.heap[w.heap.size]? = some (.cells f.cells 56 (0, 0)) ∧ Below w.heap.size w wr) (fun i _ => n - (intOf i).toNat)
  case atStart => exact ⟨0, by omega, rfl, fun j hj => absurd hj (Nat.not_lt_zero _), HR0.out.drew, HQ0.out, HB.out.drew⟩
  case round =>
    obtain ⟨k, hk, rfl, hok, R, Q, hB⟩ := hrel
    clear HR0 HQ0 HB
    have HK := Lib.hid hok
    have HR := Lib.hid R
    have HQ := Lib.hid Q
    have HB := Lib.hid hB
    obtain ⟨c0, c1, c2, c3, c4, c5, c6, fr⟩ := R.facts
    obtain ⟨d0, d2, d3, d4⟩ := Boxed.of Q
    clear c0 c3 d0 hok Q hB fr
    by_cases hlt : k < n
    · obtain ⟨q, hq⟩ : ∃ q, f.off + (k : Int) - B.base = q := ⟨_, rfl⟩
      have hw1 : IntKind.i64.wrap (f.off + (k : Int)) = f.off + (k : Int) := IntWalk.i64_in _ (by omega)
      have hw2 : IntKind.i64.wrap (f.off + (k : Int) - B.base) = q := by rw [hq]; exact IntWalk.i64_in _ (by omega)
      clear c4 c5 c6 d4
      by_cases hq0 : q < 0
      · have HO : Hid (okAt B f k = true) := Lib.hid (by unfold okAt; rw [hq]; simp [hq0])
        clear hq R
        go_wp2
        refine wp_region_still_lit (by kernel_rfl) (by kernel_rfl) ?_
        repeat ((with_reducible refine wpStill_step (fun K hK => ?_)); go_simp; (with_reducible refine hK _ ?_); clear hK K)
        with_reducible refine wpStill_nil ?_
        go_wp2
        change Code.wp _ _ _ _ wr.drew
        have HR2 := Lib.hid HR.out.drew
        have HB2 := Lib.hid HB.out.drew
        have HQ2 : Hid (wr.drew.heap[w.heap.size]? = some (.cells f.cells 56 (0, 0))) := Lib.hid HQ.out
        clear HR HQ HB c1 c2 d2 d3
        generalize wr.drew = w2 at *
        have hq1 : (0 ≤ q) = False := eq_false (by omega)
        refine wp_region_still_lit (by kernel_rfl) (by kernel_rfl) ?_
        repeat ((with_reducible refine wpStill_step (fun K hK => ?_)); go_simp; (with_reducible refine hK _ ?_); clear hK K)
        with_reducible refine wpStill_nil ?_
        go_wp2
        go_roundw
        case rel => exact ⟨k + 1, by omega, by simp, fun j hj => (Nat.lt_succ_iff_lt_or_eq.1 hj).elim (HK.out j) (fun e => e ▸ HO.out), HR2.out.drew, HQ2.out, HB2.out.drew⟩
        case measure => simp [intOf]; omega
      · obtain ⟨p, rfl⟩ : ∃ p : Nat, q = p := ⟨q.toNat, by omega⟩
        obtain ⟨g, cpp, rfl, hc1, hc2, hcell, hfr⟩ := own_cells R.rd (by omega)
        have e1 := hcell p (by omega)
        unfold maxLen at hc2
        obtain ⟨x, hx⟩ : ∃ x, B.data[p]?.getD 0 = x := ⟨_, rfl⟩
        rw [hx] at e1
        have hpd : p < B.data.length := by omega
        have hq1 : (0 : Int) ≤ (p : Int) := by omega
        have hkn : k < f.s.size := by omega
        obtain ⟨y, hy⟩ : ∃ y, (bytesOf f.s)[k]?.getD 0 = y := ⟨_, rfl⟩
        have hy2 : ((f.s[k]'hkn).toNat : Int) = y := by rw [← bytesOf_get]; exact hy
        have HO : Hid (okAt B f k = decide (x = y)) := Lib.hid (by unfold okAt; rw [hq, Int.toNat_natCast, hx, hy, show decide ((p : Int) < 0) = false from by simp]; rfl)
        clear hcell hfr R hq hx hq0
        have CL : Hid (∀ j, wr.cell? ⟨g, j, none⟩ = wr.drew.cell? ⟨g, j, none⟩) := Lib.hid (fun _ => rfl)
        go_wp2
        refine wp_region_still_lit (by kernel_rfl) (by kernel_rfl) ?_
        repeat ((with_reducible refine wpStill_step (fun K hK => ?_)); go_simp; (with_reducible refine hK _ ?_); clear hK K)
        with_reducible refine wpStill_nil ?_
        go_wp2
        change Code.wp _ _ _ _ wr.drew
        have HR2 := Lib.hid HR.out.drew
        have HB2 := Lib.hid HB.out.drew
        have HQ2 : Hid (wr.drew.heap[w.heap.size]? = some (.cells f.cells 56 (0, 0))) := Lib.hid HQ.out
        have e2 := (CL.out p).symm.trans e1
        clear HR HQ HB c1 c2 d2 d3 e1 CL
        generalize wr.drew = w2 at *
        obtain ⟨c0, c1, c2, c3, c4, c5, c6, fr⟩ := HR2.out.facts
        obtain ⟨d0, d2, d3, d4⟩ := Boxed.of HQ2.out
        clear c0 c1 c3 c4 c5 c6 fr d0 d2 d4
        refine wp_region_still_lit (by kernel_rfl) (by kernel_rfl) ?_
        repeat ((with_reducible refine wpStill_step (fun K hK => ?_)); go_simp; (with_reducible refine hK _ ?_); clear hK K)
        with_reducible refine wpStill_nil ?_
        have HX : Hid (x = y ∨ x ≠ y) := Lib.hid (by omega)
        rcases HX.out with hx2 | hx2
        · have HO2 : Hid (okAt B f k = true) := Lib.hid (by rw [HO.out]; simp [hx2])
          have hxb : (x != y) = false := by simp [hx2]
          clear hx2
          go_wp2
          go_roundw
          case rel => exact ⟨k + 1, by omega, by simp, fun j hj => (Nat.lt_succ_iff_lt_or_eq.1 hj).elim (HK.out j) (fun e => e ▸ HO2.out), HR2.out.drew, HQ2.out, HB2.out.drew⟩
          case measure => simp [intOf]; omega
        · have HO2 : Hid (okAt B f k = false) := Lib.hid (by rw [HO.out]; simp [hx2])
          have hxb : (x != y) = true := by simp [hx2]
          clear hx2
          go_wp2
          go_ret
          exact ⟨by rw [HRS.out k hlt HO2.out]; try rfl, HB2.out.drew⟩
    · obtain rfl : k = n := by omega
      have HT := Lib.hid (HRT.out HK.out)
      clear hk hlt c2 d3 R
      have hw5 : IntKind.i64.wrap (f.off + (k : Int)) = f.off + (k : Int) := IntWalk.i64_in _ (by omega)
      have WR := Lib.hid (fun j => written_any b F B (wr.drewN j) ⟨_, _, HR.out.drewN j⟩ HG.out)
      go_wp2
      cases hfin : f.fin
      · have HZ : Hid (RES = true) := Lib.hid (by rw [HT.out]; unfold tailF; rw [hfin]; rfl)
        rw [hfin] at d4
        clear hfin
        refine wp_region_still_lit (by kernel_rfl) (by kernel_rfl) ?_
        repeat ((with_reducible refine wpStill_step (fun K hK => ?_)); go_simp; (first | (with_reducible refine hK _ ?_) | (refine if_no ?hno ?_; (case hno => nofun); (with_reducible refine hK _ ?_))); clear hK K)
        with_reducible refine wpStill_nil ?_
        go_wp2
        go_ret
        exact ⟨by rw [HZ.out]; try rfl, HB.out.drew⟩
      · rw [hfin] at d4
        cases hbf : B.fin
        · have HZ : Hid (RES = false) := Lib.hid (by rw [HT.out]; unfold tailF; rw [hfin, hbf]; rfl)
          rw [hbf] at c5
          clear hfin hbf
          refine wp_region_still_lit (by kernel_rfl) (by kernel_rfl) ?_
          repeat ((with_reducible refine wpStill_step (fun K hK => ?_)); go_simp; (with_reducible refine hK _ ?_); clear hK K)
          with_reducible refine wpStill_nil ?_
          go_wp2
          go_ret
          exact ⟨by rw [HZ.out]; try rfl, HB.out.drew⟩
        · rw [hbf] at c5
          by_cases hed : B.ed = 0
          · have HZ : Hid (RES = false) := Lib.hid (by rw [HT.out]; unfold tailF; rw [hfin, hbf, hed]; simp)
            rw [hed] at c6
            clear hfin hbf hed
            refine wp_region_still_lit (by kernel_rfl) (by kernel_rfl) ?_
            repeat ((with_reducible refine wpStill_step (fun K hK => ?_)); go_simp; (with_reducible refine hK _ ?_); clear hK K)
            with_reducible refine wpStill_nil ?_
            go_wp2
            go_ret
            exact ⟨by rw [HZ.out]; try rfl, HB.out.drew⟩
          · have HZ : Hid (RES = decide (f.off + (k : Int) = writtenF B)) := Lib.hid (by rw [HT.out]; unfold tailF; rw [hfin, hbf, hn2]; simp [hed])
            have hedb : (B.ed != 0) = true := by simp [hed]
            have d3 := (Boxed.of HQ.out).d3
            clear hfin hbf hed
            refine wp_region_quiet_lit (by kernel_rfl) (by kernel_rfl) ?_
            repeat ((with_reducible refine wpQuiet_step (fun K hK => ?_)); go_simp; first | ((with_reducible refine hK _ ?_); clear hK K) | (apply Exists.intro; (with_reducible refine ⟨fun _ => ?_, hK _ ?_⟩); (go_at_call 49; exact Calls.quiet_of (WR.out _)); clear hK K))
            with_reducible refine wpQuiet_nil ?_
            intro _ hw'
            obtain ⟨nq, hw2'⟩ := hw'
            subst hw2'
            go_wp2
            go_ret
            exact ⟨by rw [HZ.out]; try rfl, belowN HB.out _⟩
theorem fits_any (b : Nat) (F : Nat → Prop) (B : Bf) (f : Fr) (w : World) (h : Inv w b F B) (hg : Good B) :
    Calls Tryz.prog 70 #[.pointer (some ⟨b, 0, none⟩), f.val] w fun e w' => e = .returned (.bool (fitsF B f)) ∧ Below w.heap.size w w' := by
  unfold fitsF
  cases hh : headF B f
  · exact (fits_no b F B f w h hg hh).mono fun _ _ h => ⟨by rw [h.1]; rfl, h.2⟩
  · exact (fits_head b F B f w h hg hh).mono fun _ _ h => ⟨by rw [h.1, Bool.true_and], h.2⟩
end Go.Proofs.YtpfkeohaaeiaaaaGreatDoor
namespace Go.Proofs.YtpfkeohaaeiaaaaGreatDoor
open Go.RowKit
set_option maxRecDepth 100000
theorem change_lost (g k : Nat) (w : World) (x : Int) (h : w.cell? ⟨g, k, none⟩ = some (.int .u8 x)) (hf : w.frozen? ⟨g, k, none⟩ = false) :
    Calls Tryz.prog 52 #[.pointer (some ⟨g, k, none⟩)] w fun e w' => e = .returned (.tuple #[]) ∧ w' = if x = 1 then w.setCell ⟨g, k, none⟩ (.int .u8 2) else w := by
  by_cases hx : x = 1
  · subst hx
    rw [if_pos rfl]
    go_enter Tryz.func52, Tryz.ntmps52
    go_wp2
    go_returns
    exact ⟨rfl, rfl⟩
  · rw [if_neg hx]
    have hb : (x == 1) = false := by simp [hx]
    clear hx
    go_enter Tryz.func52, Tryz.ntmps52
    go_wp2
    go_returns
    exact ⟨rfl, rfl⟩
theorem change_acked (g k : Nat) (w : World) (x : Int) (h : w.cell? ⟨g, k, none⟩ = some (.int .u8 x)) (hf : w.frozen? ⟨g, k, none⟩ = false) :
    Calls Tryz.prog 53 #[.pointer (some ⟨g, k, none⟩)] w fun e w' => e = .returned (.tuple #[]) ∧ w' = w.setCell ⟨g, k, none⟩ (.int .u8 3) := by
  go_enter Tryz.func53, Tryz.ntmps53
  go_wp2
  go_returns
  exact ⟨rfl, rfl⟩
/-- what a change makes of a state: true: acknowledged, false: lost -/
def turn (A : Bool) (x : Int) : Int := if A then 3 else if x = 1 then 2 else x
def turnTo (A : Bool) (st : List Int) (i : Nat) : Nat → List Int
  | 0 => st
  | n + 1 => (turnTo A st i n).set (i + n) (turn A ((turnTo A st i n)[i + n]?.getD 0))
theorem turnTo_length (A : Bool) (st : List Int) (i n : Nat) : (turnTo A st i n).length = st.length := by
  induction n with
  | zero => rfl
  | succ n ih => simp [turnTo, ih]
theorem set_same (l : List Int) (k : Nat) : l.set k (l[k]?.getD 0) = l := by
  apply List.ext_getElem?
  intro j
  rw [List.getElem?_set]
  split
  · rename_i h
    subst h
    split
    · rename_i h2; simp [h2]
    · rename_i h2; rw [List.getElem?_eq_none (by omega)]
  · rfl
def turnFn (A : Bool) : Nat := if A then 53 else 52
theorem turn_state (A : Bool) (b : Nat) (F : Nat → Prop) (B : Bf) (vd : Value) (g n cap k : Nat) (w : World) (R : Rep w b F B vd (.slice (some ⟨g, 0, none⟩) n cap)) (hk : k < B.st.length) :
    Calls Tryz.prog (turnFn A) #[.pointer (some ⟨g, k, none⟩)] w fun e w' => e = .returned (.tuple #[]) ∧ Rep w' b F { B with st := B.st.set k (turn A (B.st[k]?.getD 0)) } vd (.slice (some ⟨g, 0, none⟩) n cap) ∧ Chg F w w' ∧ w'.heap.size = w.heap.size := by
  obtain ⟨g2, cp, e, hc1, hc2, hcell, hfr⟩ := own_cells R.rs (by omega)
  simp only [Value.slice.injEq, Option.some.injEq, Addr.mk.injEq] at e
  obtain ⟨⟨rfl, _, _⟩, rfl, rfl⟩ := e
  have N := fun v => R.setState k hk v
  cases A
  · refine (change_lost g k w _ (hcell k hk) (hfr k)).mono ?_
    rintro e w' ⟨rfl, rfl⟩
    by_cases h1 : B.st[k]?.getD 0 = 1
    · rw [if_pos h1, show turn false (B.st[k]?.getD 0) = 2 from by simp [turn, h1]]
      exact ⟨rfl, (N 2).1, (N 2).2, by simp⟩
    · rw [if_neg h1, show turn false (B.st[k]?.getD 0) = B.st[k]?.getD 0 from by simp [turn, h1], set_same]
      exact ⟨rfl, R, Chg.refl F w, rfl⟩
  · refine (change_acked g k w _ (hcell k hk) (hfr k)).mono ?_
    rintro e w' ⟨rfl, rfl⟩
    exact ⟨rfl, (N 3).1, (N 3).2, by simp⟩
theorem turn_end (A : Bool) (b : Nat) (F : Nat → Prop) (B : Bf) (vd vs : Value) (w : World) (R : Rep w b F B vd vs) :
    Calls Tryz.prog (turnFn A) #[.pointer (some ⟨b, 6, none⟩)] w fun e w' => e = .returned (.tuple #[]) ∧ Rep w' b F { B with ed := turn A B.ed } vd vs ∧ Chg F w w' ∧ w'.heap.size = w.heap.size := by
  have N := fun v : Int => R.set 6 (.int .u8 v) (B' := { B with ed := v }) rfl rfl rfl
  have C := fun v : Int => (Chg.refl F w).set b 6 (.int .u8 v) R.fb
  cases A
  · refine (change_lost b 6 w _ R.facts.c6 (R.facts.fr 6)).mono ?_
    rintro e w' ⟨rfl, rfl⟩
    by_cases h1 : B.ed = 1
    · rw [if_pos h1, show turn false B.ed = 2 from by simp [turn, h1]]
      exact ⟨rfl, N 2, C 2, by simp⟩
    · rw [if_neg h1, show turn false B.ed = B.ed from by simp [turn, h1]]
      exact ⟨rfl, R, Chg.refl F w, rfl⟩
  · refine (change_acked b 6 w _ R.facts.c6 (R.facts.fr 6)).mono ?_
    rintro e w' ⟨rfl, rfl⟩
    exact ⟨rfl, N 3, C 3, by simp⟩
end Go.Proofs.YtpfkeohaaeiaaaaGreatDoor
