/- Law 25: the cipher's run and Encrypt. -/
import Derived.Test.YtieiplalnekmkaaL
namespace Go.Proofs.Ytieiplalnekmkaa
open Go.RowKit
def rnds (k : Ks) (s : Int × Int) : Nat → Int × Int
  | 0 => s
  | i + 1 => fwd k (rnds k s i) i
theorem rnds_ok (k : Ks) (s : Int × Int) (h : Wd s.1 ∧ Wd s.2) : ∀ i, Wd (rnds k s i).1 ∧ Wd (rnds k s i).2
  | 0 => h
  | i + 1 => fwd_ok _ _ _ (rnds_ok k s h i).2
theorem ord_any (i : Int) (w : World) : Calls Try.prog 42 #[.int .i64 i] w fun e w' => e = .returned (.int .i64 i) ∧ w' = w := by
  go_enter Try.func42, Try.ntmps42
  go_wp2
  go_ret
  exact ⟨rfl, rfl⟩
def encF (k b : ByteArray) : ByteArray := txt (rnds (ksOf k) (wd b 0, wd b 4) 8).2 (rnds (ksOf k) (wd b 0, wd b 4) 8).1
set_option maxRecDepth 100000 in
set_option maxHeartbeats 4000000 in
theorem run_any (k b : ByteArray) (w : World) (hk : k.size = 16) (hb : b.size = 8) :
    Calls Try.prog 41 #[.string k, .string b, .func (.func 42) #[] #[]] w fun e w' => e = .returned (.tuple #[.string (encF k b), .int .i64 0]) ∧ Below w.heap.size w w' := by
  have PA := Lib.hid (parse_any k b w hk hb)
  have hr := rnds_ok (ksOf k) (wd b 0, wd b 4) ⟨wd_range _ _, wd_range _ _⟩
  have hko := ksOf_ok k
  have h0 : rnds (ksOf k) (wd b 0, wd b 4) 0 = (wd b 0, wd b 4) := rfl
  unfold encF
  have hs : ∀ i, rnds (ksOf k) (wd b 0, wd b 4) (i + 1) = fwd (ksOf k) (rnds (ksOf k) (wd b 0, wd b 4) i) i := fun _ => rfl
  generalize rnds (ksOf k) (wd b 0, wd b 4) = R at *
  generalize wd b 0 = l at *
  generalize wd b 4 = r at *
  obtain ⟨K, hK⟩ : ∃ K, ksOf k = K := ⟨_, rfl⟩
  rw [hK] at PA hko hs
  clear hK hk hb
  obtain ⟨ka, kb, kc, kd⟩ := K
  have FW := Lib.hid (fun i (hi : i < 8) w => fwd_any ⟨ka, kb, kc, kd⟩ (R i).1 (R i).2 i w hko (hr i).2 hi)
  have SW := Lib.hid (fun w => swap_any (R 8).1 (R 8).2 w)
  have TX := Lib.hid (fun w => text_any (R 8).2 (R 8).1 w (hr 8).2 (hr 8).1)
  have HS := Lib.hid hs
  have H0 := Lib.hid h0
  unfold Ks.val stv at *
  clear hr hko h0 hs
  go_enter Try.func41, Try.ntmps41
  go_wp2_with fail
  refine PA.out.mono ?_
  rintro e w1 ⟨rfl, hb1⟩
  have F := Lib.hid (box2 w1 (.cells #[.int .u32 ka, .int .u32 kb, .int .u32 kc, .int .u32 kd] 96) (.cells #[.int .u32 l, .int .u32 r] 98))
  have HB1 := Lib.hid hb1
  clear hb1
  go_wp2_with fail
  generalize ((w1.alloc (Obj.cells #[.int .u32 ka, .int .u32 kb, .int .u32 kc, .int .u32 kd] 96)).alloc (Obj.cells #[.int .u32 l, .int .u32 r] 98)) = V at F ⊢
  have HV : Hid (Below w.heap.size w V ∧ w.heap.size ≤ w1.heap.size) := Lib.hid ⟨btrans HB1.out F.out.2.2.1, HB1.out.size⟩
  go_loopw [22] (fun i wr => ∃ j : Nat, j ≤ 8 ∧ i = .int .i64 j ∧ wr.heap[w1.heap.size]? = some (.cells #[.int .u32 ka, .int .u32 kb, .int .u32 kc, .int .u32 kd] 96) ∧ wr.heap[w1.heap.size + 1]? = some (.cells #[.int .u32 (R j).1, .int .u32 (R j).2] 98) ∧ Below w.heap.size w wr) (fun i _ => 8 - (intOf i).toNat)
  case atStart => exact ⟨0, by decide, rfl, F.out.1, by rw [H0.out]; exact F.out.2.1, HV.out.1⟩
  case round =>
    obtain ⟨j, hj, rfl, h8, h9, hB⟩ := hrel
    have hw1 := HV.out.2
    have k0 := at_whole h8 0 rfl
    have k1 := at_whole h8 1 rfl
    have k2 := at_whole h8 2 rfl
    have k3 := at_whole h8 3 rfl
    have s0 := at_whole h9 0 rfl
    have s1 := at_whole h9 1 rfl
    have fs0 := frozen_whole h9 0
    have fs1 := frozen_whole h9 1
    simp only [List.getElem_toArray, List.getElem_cons_zero, List.getElem_cons_succ] at k0 k1 k2 k3 s0 s1
    have G := Lib.hid (And.intro h8 (And.intro h9 hB))
    clear h8 h9 hB
    by_cases hlt : j < 8
    · have HSj := Lib.hid (HS.out j)
      have FWj := Lib.hid (FW.out j hlt)
      obtain ⟨p, hp⟩ : ∃ p, R j = p := ⟨_, rfl⟩
      rw [hp] at HSj FWj s0 s1 G
      clear hp
      obtain ⟨p1, p2⟩ := p
      simp only at s0 s1
      go_wp2
      go_still_tail 6, (by kernel_rfl)
      repeat (first | still_step | still_call (ord_any _ _))
      refine wpStill_nil ?_
      go_wp2_with fail
      refine (FWj.out _).mono ?_
      rintro e w2 ⟨rfl, hb2⟩
      have t0 := heap_below hb2 G.out.2.1
      have f0 := frozen_whole t0 0
      have f1 := frozen_whole t0 1
      have u0 := at_whole t0 0 rfl
      have u1 := at_whole t0 1 rfl
      have T := Lib.hid (And.intro (heap_below hb2 G.out.1) (And.intro t0 (Below.trans G.out.2.2.drew (hb2.mono (show w.heap.size ≤ wr.heap.size from G.out.2.2.size)))))
      clear t0 hb2
      go_wp2
      go_roundw
      case rel =>
        refine ⟨j + 1, by omega, by go_num, set_other (by omega) (set_other (by omega) T.out.1), ?_, ?_⟩
        · rw [HSj.out]; exact heap_set _ (heap_set _ T.out.2.1)
        · exact (Below.setCell (Below.setCell T.out.2.2 (p := ⟨w1.heap.size + 1, 0, none⟩) (show w.heap.size ≤ w1.heap.size + 1 by omega) _) (p := ⟨w1.heap.size + 1, 1, none⟩) (show w.heap.size ≤ w1.heap.size + 1 by omega) _)
      case measure => simp [intOf]; omega
    · obtain rfl : j = 8 := by omega
      clear hlt
      go_wp2_with fail
      refine (SW.out _).mono ?_
      rintro e w2 ⟨rfl, hb2⟩
      have HB2 := Lib.hid (btrans G.out.2.2 hb2)
      clear hb2
      go_wp2_with fail
      refine (TX.out _).mono ?_
      rintro e w3 ⟨rfl, hb3⟩
      have HB3 := Lib.hid (btrans HB2.out hb3)
      clear hb3
      go_wp2
      go_ret2
      exact ⟨rfl, HB3.out⟩
theorem enc_any (k b : ByteArray) (w : World) (hk : k.size = 16) (hb : b.size = 8) :
    Calls Try.prog 40 #[.string k, .string b] w fun e w' => e = .returned (.tuple #[.string (encF k b), .int .i64 0]) ∧ Below w.heap.size w w' := by
  have RN := Lib.hid (run_any k b w hk hb)
  clear hk hb
  go_enter Try.func40, Try.ntmps40
  go_wp2_with (go_at_call 41; refine RN.out.mono ?_; rintro e w2 ⟨rfl, hb2⟩)
  go_ret2
  exact ⟨rfl, hb2⟩
theorem encF_size (k b : ByteArray) : (encF k b).size = 8 := txt_size _ _
end Go.Proofs.Ytieiplalnekmkaa
