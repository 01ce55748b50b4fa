/- Law 25: Send. -/
import Derived.Test.YtieiplalnekmkaaU
import Derived.Test.YtieiplalnekmkaaHeld
namespace Go.Proofs.Ytieiplalnekmkaa
open Go.RowKit
theorem out4 {w w2 : World} {n : Nat} (hB : Below w.heap.size w w2) (hn : w.heap.size = n) (h : w2.heap[n]? = some (.cells #[.string ⟨#[]⟩, .string ⟨#[]⟩, .string ⟨#[]⟩, .string ⟨#[]⟩] 42 (0, 0))) (x0 x1 x2 x3 : Value) :
    ((((w2.setCell ⟨n, 0, none⟩ x0).setCell ⟨n, 1, none⟩ x1).setCell ⟨n, 2, none⟩ x2).setCell ⟨n, 3, none⟩ x3).heap[n]? = some (.cells #[x0, x1, x2, x3] 42 (0, 0)) ∧
    Below w.heap.size w ((((w2.setCell ⟨n, 0, none⟩ x0).setCell ⟨n, 1, none⟩ x1).setCell ⟨n, 2, none⟩ x2).setCell ⟨n, 3, none⟩ x3) :=
  ⟨heap_set _ (heap_set _ (heap_set _ (heap_set _ h))), set4 hB (Nat.le_of_eq hn) _ _ _ _⟩
set_option maxRecDepth 100000 in
set_option maxHeartbeats 4000000 in
theorem send_any (b : Nat) (X : Ph) (w : World) (hs : X.ss.size = 16) (hg0 : 0 ≤ X.sg) (hb : w.heap[b]? = some (.cells X.cells 66 (0, 0))) :
    Calls Try.prog 19 #[.pointer (some ⟨b, 0, none⟩)] w fun e w' => e = .returned (.tuple #[(kyF X.sh X.ss).val, .int .i64 (X.sg % 2)]) ∧ Below w.heap.size w w' := by
  have EX := Lib.hid (fun w => exp_any X.ss X.sh X.ss X.sg w hs)
  unfold Ky.val Ky.cells at *
  generalize kyF X.sh X.ss = y at *
  obtain ⟨y0, y1, y2, y3⟩ := y
  simp only at *
  have hlb := heap_lt hb
  have F := Lib.hid (box1 w (.cells #[.string ⟨#[]⟩, .string ⟨#[]⟩, .string ⟨#[]⟩, .string ⟨#[]⟩] 42))
  have HB := Lib.hid hb
  clear hs hb
  go_enter Try.func19, Try.ntmps19
  go_wp2_with fail
  generalize w.alloc (.cells #[.string ⟨#[]⟩, .string ⟨#[]⟩, .string ⟨#[]⟩, .string ⟨#[]⟩] 42) = V at F ⊢
  have hV := heap_below F.out.2.1 HB.out
  have c0 : V.cell? ⟨b, 0, none⟩ = some (.string X.ss) := at_whole hV 0 rfl
  have c1 : V.cell? ⟨b, 1, none⟩ = some (.string X.sh) := at_whole hV 1 rfl
  have c2 : V.cell? ⟨b, 2, none⟩ = some (.int .i64 X.sg) := at_whole hV 2 rfl
  clear hV
  have hsz := F.out.2.2
  have r0 : V.cell? ⟨w.heap.size, 0, none⟩ = some (.string ⟨#[]⟩) := at_whole F.out.1 0 rfl
  have r1 : V.cell? ⟨w.heap.size, 1, none⟩ = some (.string ⟨#[]⟩) := at_whole F.out.1 1 rfl
  have r2 : V.cell? ⟨w.heap.size, 2, none⟩ = some (.string ⟨#[]⟩) := at_whole F.out.1 2 rfl
  have r3 : V.cell? ⟨w.heap.size, 3, none⟩ = some (.string ⟨#[]⟩) := at_whole F.out.1 3 rfl
  have fr0 := frozen_whole F.out.1 0
  have fr1 := frozen_whole F.out.1 1
  have fr2 := frozen_whole F.out.1 2
  have fr3 := frozen_whole F.out.1 3
  have lR : w.heap.size < V.heap.size := by omega
  clear hsz
  have HS := Lib.hid (show ∀ w', Held V (w.heap.size) w' → (w'.cell? ⟨b, 0, none⟩ = some (.string X.ss) ∧ w'.cell? ⟨b, 1, none⟩ = some (.string X.sh) ∧ w'.cell? ⟨b, 2, none⟩ = some (.int .i64 X.sg) ∧ w'.frozen? ⟨w.heap.size, 0, none⟩ = false ∧ w'.frozen? ⟨w.heap.size, 1, none⟩ = false ∧ w'.frozen? ⟨w.heap.size, 2, none⟩ = false ∧ w'.frozen? ⟨w.heap.size, 3, none⟩ = false ∧ w'.cell? ⟨w.heap.size, 0, none⟩ = some (cur w' ⟨w.heap.size, 0, none⟩) ∧ w'.cell? ⟨w.heap.size, 1, none⟩ = some (cur w' ⟨w.heap.size, 1, none⟩) ∧ w'.cell? ⟨w.heap.size, 2, none⟩ = some (cur w' ⟨w.heap.size, 2, none⟩) ∧ w'.cell? ⟨w.heap.size, 3, none⟩ = some (cur w' ⟨w.heap.size, 3, none⟩)) from fun w' h => ⟨h.cell c0 (by omega), h.cell c1 (by omega), h.cell c2 (by omega), h.froz fr0 lR, h.froz fr1 lR, h.froz fr2 lR, h.froz fr3 lR, h.cur r0, h.cur r1, h.cur r2, h.cur r3⟩)
  go_region_held3 (fun w' => w'.cell? ⟨b, 0, none⟩ = some (.string X.ss) ∧ w'.cell? ⟨b, 1, none⟩ = some (.string X.sh) ∧ w'.cell? ⟨b, 2, none⟩ = some (.int .i64 X.sg) ∧ w'.frozen? ⟨w.heap.size, 0, none⟩ = false ∧ w'.frozen? ⟨w.heap.size, 1, none⟩ = false ∧ w'.frozen? ⟨w.heap.size, 2, none⟩ = false ∧ w'.frozen? ⟨w.heap.size, 3, none⟩ = false ∧ w'.cell? ⟨w.heap.size, 0, none⟩ = some (cur w' ⟨w.heap.size, 0, none⟩) ∧ w'.cell? ⟨w.heap.size, 1, none⟩ = some (cur w' ⟨w.heap.size, 1, none⟩) ∧ w'.cell? ⟨w.heap.size, 2, none⟩ = some (cur w' ⟨w.heap.size, 2, none⟩) ∧ w'.cell? ⟨w.heap.size, 3, none⟩ = some (cur w' ⟨w.heap.size, 3, none⟩)) (first | exact HS.out _ (Held.start _ _) | exact HS.out _ ((Held.start _ _).below hb2) | exact HS.out _ ((((((Held.start _ _).below hb2).set _ _).set _ _).set _ _).set _ _)) (first | (go_at_call 28; refine (EX.out _).mono ?_; rintro e w2 ⟨rfl, hb2⟩))
  have HBV : Hid (Below w.heap.size w w2) := Lib.hid ((F.out.2.1.drew).trans (hb2.mono (show w.heap.size ≤ V.heap.size by omega)))
  have hR := heap_below hb2 (show V.drew.heap[w.heap.size]? = some (.cells #[.string ⟨#[]⟩, .string ⟨#[]⟩, .string ⟨#[]⟩, .string ⟨#[]⟩] 42) from F.out.1)
  have G := Lib.hid (out4 HBV.out rfl hR (.string y0) (.string y1) (.string y2) (.string y3))
  clear hb2 hR HS
  generalize (((w2.setCell ⟨w.heap.size, 0, none⟩ (.string y0)).setCell ⟨w.heap.size, 1, none⟩ (.string y1)).setCell ⟨w.heap.size, 2, none⟩ (.string y2)).setCell ⟨w.heap.size, 3, none⟩ (.string y3) = Z at *
  have q0 : Z.cell? ⟨w.heap.size, 0, none⟩ = some (.string y0) := at_whole G.out.1 0 rfl
  have q1 : Z.cell? ⟨w.heap.size, 1, none⟩ = some (.string y1) := at_whole G.out.1 1 rfl
  have q2 : Z.cell? ⟨w.heap.size, 2, none⟩ = some (.string y2) := at_whole G.out.1 2 rfl
  have q3 : Z.cell? ⟨w.heap.size, 3, none⟩ = some (.string y3) := at_whole G.out.1 3 rfl
  go_wp2
  refine bodyPost_ret (v := .tuple #[.agg #[.string y0, .string y1, .string y2, .string y3], .int .i64 (X.sg.tmod 2)]) (by simp [results, Try.results19, go_sem, q0, q1, q2, q3]) rfl ⟨?_, G.out.2⟩
  rw [Int.tmod_eq_emod_of_nonneg hg0]
end Go.Proofs.Ytieiplalnekmkaa
