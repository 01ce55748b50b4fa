import Derived.Test.YtmjekepiplibkaaG
namespace Go.Proofs.Ytmjekepiplibkaa
open Go.RowKit
def nextE (B : Bf) (P : Option (Nat × Nat)) : Ending := .returned (.tuple #[(nextR B P).val, .bool P.isSome])
def NextPost (b : Nat) (F : Nat → Prop) (B : Bf) (P : Option (Nat × Nat)) (w : World) (e : Ending) (w' : World) : Prop := e = nextE B P ∧ Chg F w w' ∧ Inv w' b (Ext F w w') (nextB B P)
set_option maxHeartbeats 4000000 in
theorem next_neg (b : Nat) (F : Nat → Prop) (B : Bf) (most credit : Int) (w : World) (h : Inv w b F B) (hm : most < 0) :
    Calls Try.prog 16 #[.pointer (some ⟨b, 0, none⟩), .int .i64 most, .int .i64 credit] w (NextPost b F B none w) := by
  have H0 : Below w.heap.size w (w.alloc (.cells fr0.cells 35)) := (Below.refl _ w).alloc (Nat.le_refl _) _
  have HI : Hid (Chg F w (w.alloc (.cells fr0.cells 35)) ∧ Inv (w.alloc (.cells fr0.cells 35)) b (Ext F w (w.alloc (.cells fr0.cells 35))) B) := Lib.hid ⟨Chg.below H0, (h.below H0).ext (fun k hk => .inl hk)⟩
  have HQ := Lib.hid (heap_alloc_new w (.cells fr0.cells 35))
  go_enter Try.func16, Try.ntmps16
  go_wp2
  exact bodyPost_ret (results_cell_tmp rfl _ _ w.heap.size 35 fr0.cells (0, 0) _ rfl HQ.out Try.underlying35 rfl (size35 _)) rfl ⟨rfl, HI.out⟩
set_option maxHeartbeats 4000000 in
theorem next_run (b : Nat) (F : Nat → Prop) (B : Bf) (most credit : Int) (w : World) (h : Inv w b F B) (hg : Good B) (hm : 0 < most) (f t : Nat) (hf : (runF B most).1 = f) (ht : (runF B most).2 = t) (hft : f < t) :
    Calls Try.prog 16 #[.pointer (some ⟨b, 0, none⟩), .int .i64 most, .int .i64 credit] w (NextPost b F B (some (f, t)) w) := by
  have hrb := runF_bound B most
  have htl : t ≤ B.data.length := by have := hg.len; omega
  have H0 : Below w.heap.size w (w.alloc (.cells fr0.cells 35)) := (Below.refl _ w).alloc (Nat.le_refl _) _
  have HI := Lib.hid (fun w2 => @next_glue w _ w2 b F (frameB B f t) H0 (by simp))
  have HQ := Lib.hid (heap_alloc_new w (.cells fr0.cells 35))
  have HZ : Hid ((w.alloc (.cells fr0.cells 35)).heap.size = w.heap.size + 1) := Lib.hid (by simp)
  have RN := Lib.hid (run_any b F B most (w.alloc (.cells fr0.cells 35)) (h.below H0) hg)
  have FR := Lib.hid (frame_any b (Own w F) B f t (w.alloc (.cells fr0.cells 35)) (h.own.below H0) hg (by omega) htl)
  rw [hf, ht] at RN
  clear hrb hf ht h hg htl
  go_enter Try.func16, Try.ntmps16
  go_wp2_with (first | (go_at_call 30; refine RN.out.mono ?_; rintro e w1 ⟨rfl, rfl⟩) | (go_at_call 31; refine FR.out.mono ?_; rintro e w2 ⟨rfl, hC, hI⟩; have GL := Lib.hid (HI.out w2 hC hI); have HQ2 := Lib.hid ((hC.block w.heap.size (by rw [HZ.out]; omega) (fun e => Nat.lt_irrefl _ e.2)).trans HQ.out)) | (refine wpList_store_row rfl 35 _ _ rfl w.heap.size _ rfl rfl 35 _ HQ2.out (size35 _) rfl (one35 _ _ _ _) ?_))
  exact bodyPost_ret (results_cell_tmp rfl _ _ w.heap.size 35 (frameR B f t).cells (0, 0) _ rfl (setRow_heap _ _ _ _ 35 _ HQ2.out) Try.underlying35 rfl (size35 _)) rfl ⟨rfl, GL.out _⟩
end Go.Proofs.Ytmjekepiplibkaa
