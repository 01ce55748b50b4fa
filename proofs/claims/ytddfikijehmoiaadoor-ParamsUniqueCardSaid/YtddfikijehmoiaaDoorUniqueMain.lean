/- Law 20: ParamsUnique. -/
import Derived.Test.YtddfikijehmoiaaDoorRoundMain
import Derived.Test.YtddfikijehmoiaaDoorLaidAt
import Derived.SizedLaws
import Derived.ChangeMaps5
import Derived.Deep.RegionHeld3
import Derived.Deep.DeepCutAuto
import Derived.Deep.CutBlock
import Derived.RegionTactic
import Derived.ChangeAlike
namespace Go.Proofs.YtddfikijehmoiaaDoor.paramsUnique
open Go.ChangeShapes Go.WideShapes Go.ChangeAt Go.RowKit
theorem rows2 (w : World) (o1 o2 : Obj) : ((w.alloc o1).alloc o2).heap[w.heap.size]? = some o1 ∧ ((w.alloc o1).alloc o2).heap[w.heap.size + 1]? = some o2 :=
  ⟨(Below.heap_alloc _ _ _ (by simp)).trans (heap_alloc_new w _), by have := heap_alloc_new (w.alloc o1) o2; rw [World.size_alloc] at this; exact this⟩
def RU (g : Nat) (ad : Addr) (w wr : World) : Prop := ∃ A B : ByteArray, A.size ≤ 100 ∧ B.size ≤ 100 ∧ wr.heap[g]? = some (.cells #[.string A, .string B] 9 (0, 0)) ∧ Laid ad wr ∧ Below w.heap.size w wr
theorem ru_mk {w w3 : World} {ad : Addr} (hB : Below w.heap.size w w3) (hL : Laid ad w3) (o : Obj) (A B : ByteArray) (hA : A.size ≤ 100) (hB2 : B.size ≤ 100) :
    RU (w3.heap.size + 1) ad w ((w3.alloc o).alloc (.cells #[.string A, .string B] 9)).drew :=
  ⟨A, B, hA, hB2, (rows2 w3 o _).2, (hL.alloc _).alloc _, ((hB.alloc hB.size _).alloc (by have := hB.size; simp; omega) _).drew⟩
theorem RU.below {g : Nat} {ad : Addr} {w wr wq : World} (h : RU g ad w wr) (hb : Below wr.heap.size wr wq) : RU g ad w wq := by
  obtain ⟨A, B, h1, h2, h3, h4, h5⟩ := h
  exact ⟨A, B, h1, h2, heap_below hb h3, h4.below hb, btrans h5 hb⟩
set_option maxRecDepth 100000 in
set_option maxHeartbeats 8000000 in
theorem walk (s : ByteArray) (hs : s.size ≤ 140737488351232) (p : Pm) (hp : p.ok) (n : Int) (hn1 : -9223372036854775808 ≤ n) (hn2 : n ≤ 9223372036854775807) (b : Int) (_hb0 : 0 ≤ b) (_hb1 : b ≤ 255) (ad : Addr) (w : World) (h : Laid ad w) :
    Calls Tryd.prog 4 #[.string s, .agg p.cells, .int .i64 n, .int .u8 b] w (LB (.bool true) ad w) := by
  have P0 := Lib.hid (heap_alloc_new w (.cells p.cells 23))
  have L0 := Lib.hid (h.alloc (.cells p.cells 23))
  have B0 := Lib.hid ((Below.refl _ w).alloc (Nat.le_refl _) (.cells p.cells 23))
  have HF := Lib.hid (fun w h => kfrom p hp ad w h)
  have hv := fromP_valid p
  generalize fromP p = X at *
  have HE := Lib.hid (fun w h => kenc X hv ad w h)
  have hSp := encS_pos X hv
  have hSl := encS_le X
  have HS := Lib.hid (empty_iff (encS X) hSp)
  generalize encS X = S at *
  have hpk := pickF_range n S.size (by omega)
  have HPK := Lib.hid (fun w => pick_any n S.size w hn1 hn2 (by omega) (by omega))
  generalize pickF n S.size = k at *
  obtain ⟨j, rfl⟩ := Int.eq_ofNat_of_zero_le hpk.1
  have hj : j < S.size := by omega
  have hj2 : (j : Int) < S.size := by omega
  clear h hv hp hpk hn1 hn2
  unfold Pm.cells at *
  go_enter Tryd.func4, Tryd.ntmps4
  go_wp2_with fail
  refine (sane_any ad _ L0.out).mono ?_
  rintro e w1 ⟨rfl, hb, hl⟩
  obtain ⟨a0, a1, a2, a3, a4, a5⟩ := box6 (p := p) (heap_below hb P0.out)
  have B1 := Lib.hid (btrans B0.out hb)
  have L1 := Lib.hid hl
  clear hb hl B0 P0 L0
  go_wp2_with fail
  refine (HF.out _ L1.out).mono ?_
  rintro e w2 ⟨rfl, hb, hl⟩
  have B2 := Lib.hid (btrans B1.out hb)
  have L2 := Lib.hid hl
  clear a0 a1 a2 a3 a4 a5 hb hl
  go_wp2_with fail
  refine (HE.out _ L2.out).mono ?_
  rintro e w3 ⟨rfl, hb, hl⟩
  have B3 := Lib.hid (btrans B2.out hb)
  have L3 := Lib.hid hl
  have hS1 := HS.out
  clear hb hl B1 B2 L1 L2
  go_wp2_with fail
  refine (HPK.out _).mono ?_
  rintro e w' ⟨rfl, rfl⟩
  go_wp2_with fail
  have hcv0 : ∀ wq : World, wq.cell? ⟨w3.heap.size, 0, none⟩ = some (.int .u8 b) → (convert 33 9 (.slice (some ⟨w3.heap.size, 0, none⟩) 1 1)).run Tryd.prog wq = .ok (.string (strOfNums [b])) wq := fun wq hq => run_convert_bytes_arg (P := Tryd.prog) wq 33 5 Tryd.underlying33 Tryd.underlying5 w3.heap.size 0 1 1 [b] rfl (fun i hi => by
    obtain rfl : i = 0 := by omega
    exact hq) 9 Tryd.underlying9
  have c1 := cell_whole (heap_alloc_new w3 (.cells #[.int .u8 b] 5)) 0
  have hcv1 := hcv0 (w3.alloc (.cells #[.int .u8 b] 5)) c1
  have hcv2 := hcv0 ((w3.alloc (.cells #[.int .u8 b] 5)).drew) c1
  have hcv3 := hcv0 (w3.drew.alloc (.cells #[.int .u8 b] 5)) c1
  clear hcv0 c1
  have hbig1 : ¬ 9223372036854775807 < j + 1 := by omega
  have hbig2 : ¬ 9223372036854775807 < S.size := by omega
  have hwj : IntKind.i64.wrap ((j : Int) + 1) = (j : Int) + 1 := IntWalk.i64_in _ (by omega)
  have hj3 : 0 ≤ (j : Int) + 1 := by omega
  have hj4 : ((j : Int) + 1).toNat = j + 1 := by omega
  have hj5 : (j : Int) + 1 ≤ S.size := by omega
  have hj6 : j + 1 ≤ S.size := by omega
  have hj7 : j ≤ S.size := by omega
  have hsz1 : (S.extract 0 j).size = j := by rw [ByteArray.size_extract]; omega
  have hsz2 : (strOfNums [b]).size = 1 := strOfNums_size _
  have HSB := Lib.hid (show (S.extract 0 j ++ strOfNums [b] ++ S.extract (j + 1) S.size).size ≤ 100 by rw [ByteArray.size_append, ByteArray.size_append, hsz1, hsz2, ByteArray.size_extract]; omega)
  go_cut [52, 53, 54] from 35 to 54 (fun s52 s53 s54 w' => s52 = .slice (some ⟨w3.heap.size + 1, 0, none⟩) 2 2 ∧ s53 = .int .i64 2 ∧ s54 = .int .i64 0 ∧ RU (w3.heap.size + 1) ad w w')
  case first =>
    by_cases hm : s.size ≤ 60
    · have hmi : (s.size : Int) ≤ 60 := by omega
      have hmi2 : ¬ (60 : Int) < (s.size : Int) := by omega
      have hmi3 : ¬ 60 < s.size := by omega
      go_region
      all_goals
        go_wp2_with fail
        go_meet
        refine ⟨rfl, rfl, rfl, ?_⟩
        exact ru_mk B3.out L3.out _ _ _ (by omega) HSB.out
    · have hmi : ¬ (s.size : Int) ≤ 60 := by omega
      have hmi2 : (60 : Int) < (s.size : Int) := by omega
      have hmi3 : 60 < s.size := by omega
      go_region
      all_goals
        go_wp2_with fail
        go_meet
        refine ⟨rfl, rfl, rfl, ?_⟩
        exact ru_mk B3.out L3.out _ _ _ (by rw [ByteArray.size_extract]; omega) HSB.out
  case rest =>
    obtain ⟨rfl, rfl, rfl, hR0⟩ := hcut
    clear hcv1 hcv2 hcv3 hwj hj3 hj4 hj5 hj6 hj7 hsz1 hsz2 hbig1 hbig2 hs hSp hSl hS1
    generalize w3.heap.size + 1 = g at *
    go_wp2_with fail
    go_loopw [54] (fun i wr => ∃ k : Nat, k ≤ 2 ∧ i = .int .i64 k ∧ RU g ad w wr) (fun i _ => 2 - (intOf i).toNat)
    case atStart => exact ⟨0, by omega, rfl, hR0⟩
    case round =>
      obtain ⟨k, hk, rfl, hR⟩ := hrel
      by_cases hlt : k < 2
      · obtain ⟨Y, hY, hcell⟩ : ∃ Y : ByteArray, Y.size ≤ 100 ∧ wr.cell? ⟨g, k, none⟩ = some (.string Y) := by
          obtain ⟨A, B, h1, h2, h3, _⟩ := hR
          have : k = 0 ∨ k = 1 := by omega
          rcases this with rfl | rfl
          · exact ⟨A, h1, by rw [cell_whole h3]; rfl⟩
          · exact ⟨B, h2, by rw [cell_whole h3]; rfl⟩
        have HR := Lib.hid hR
        have HL := Lib.hid (show Laid ad wr from by obtain ⟨_, _, _, _, _, h, _⟩ := hR; exact h)
        clear hR
        cases hd : decP Y with
        | none =>
          have KD := kdec Y (by unfold maxLen; omega) _ (decE_none hd) ad wr HL.out
          unfold Pm.cells at KD
          have HKD := Lib.hid KD
          clear hd KD
          go_wp2_with (go_at_call 11; refine HKD.out.mono ?_; rintro e w5 ⟨rfl, hb, hl⟩)
          go_roundw
          case rel => exact ⟨k + 1, by omega, by simp, (HR.out.below hb).below ((Below.refl _ _).alloc (Nat.le_refl _) _)⟩
          case measure => simp [intOf]; omega
        | some pm =>
          have KD := kdec Y (by unfold maxLen; omega) _ (decE_some hd) ad wr HL.out
          obtain ⟨hv, he⟩ := dec_ok Y pm hd
          have KE := Lib.hid (fun w h => kenc pm hv ad w h)
          rw [he] at KE
          have KV := Lib.hid (fun w (h : Laid ad w) => (show Calls Tryd.prog 13 #[.agg pm.cells] w (LB (.bool true) ad w) from (valid_any pm ad w h).mono fun e w' ⟨a, b⟩ => ⟨a.trans (by rw [hv]), b, h.below b⟩))
          unfold Pm.cells at KD KE KV
          have HKD := Lib.hid KD
          clear hd hv he KD
          go_wp2_with (first
            | (go_at_call 11; refine HKD.out.mono ?_; rintro e w5 ⟨rfl, hb, hl⟩; have hn5 := heap_alloc_new w5 (.cells pm.cells 23))
            | (go_at_call 10; refine (KE.out _ (hl.alloc (.cells pm.cells 23))).mono ?_; rintro e w6 ⟨rfl, hb6, hl6⟩; obtain ⟨x0, x1, x2, x3, x4, x5⟩ := box6 (p := pm) (heap_below hb6 hn5))
            | (go_at_call 13; refine (KV.out _ hl6).mono ?_; rintro e w7 ⟨rfl, hb7, hl7⟩))
          go_roundw
          case rel => exact ⟨k + 1, by omega, by simp, (((HR.out.below hb).below ((Below.refl _ _).alloc (Nat.le_refl _) _)).below hb6).below hb7⟩
          case measure => simp [intOf]; omega
      · obtain rfl : k = 2 := by omega
        have HR := Lib.hid hR
        clear hR hlt
        go_wp2
        go_ret
        obtain ⟨_, _, _, _, _, h1, h2⟩ := HR.out
        exact ⟨rfl, h2, h1⟩
set_option maxRecDepth 100000 in
theorem main {H : Type} {enc : TypeId × Value → H} (W : World) (ad : Addr) (hl : Laid ad W) (d0 d1 d2 d3 : DataW H) (hw : (DataW.weightsEach Tryd.prog [9, 23, 3, 5] [d0, d1, d2, d3]).all (· ≤ reachBytes) = true)
    (b0 : Nat) (v0 : Value) (p0 : List MemPlace) (k0 : Value.okWide Tryd.prog W .any b0 9 v0) (h0 : DataW.Trod enc Tryd.prog W 0 (fun _ => true) true 9 v0 d0 p0)
    (b1 : Nat) (v1 : Value) (p1 : List MemPlace) (k1 : Value.okWide Tryd.prog W .any b1 23 v1) (h1 : DataW.Trod enc Tryd.prog W 0 (fun _ => true) true 23 v1 d1 p1)
    (b2 : Nat) (v2 : Value) (p2 : List MemPlace) (k2 : Value.okWide Tryd.prog W .any b2 3 v2) (h2 : DataW.Trod enc Tryd.prog W 0 (fun _ => true) true 3 v2 d2 p2)
    (b3 : Nat) (v3 : Value) (p3 : List MemPlace) (k3 : Value.okWide Tryd.prog W .any b3 5 v3) (h3 : DataW.Trod enc Tryd.prog W 0 (fun _ => true) true 5 v3 d3 p3) :
    Calls Tryd.prog 4 #[v0, v1, v2, v3] W fun e w' => e = .returned (.bool true) ∧ Below W.heap.size W w' := by
  obtain ⟨s, rfl, hd, _, _⟩ := Go.ChangeMaps.open_string Tryd.underlying9 k0 h0
  obtain ⟨pm, rfl, hok⟩ := open_pm k1 h1
  obtain ⟨n, rfl, _, _, hn⟩ := open_int Tryd.underlying3 k2 h2
  obtain ⟨b, rfl, _, _, hb⟩ := open_int Tryd.underlying5 k3 h3
  have hnb := wf_bounds hn
  have hbb : 0 ≤ b ∧ b ≤ 255 := by
    simp [Lit.wf, IntKind.min, IntKind.max, IntKind.bits, IntKind.signed] at hb
    omega
  have hz := sized_string hw (j := 0) rfl (congrArg some hd)
  exact (walk s (by unfold reachBytes at hz; simp at hz; omega) pm hok n hnb.1 hnb.2 b hbb.1 hbb.2 ad W hl).mono fun e w' h => ⟨h.1, h.2.1⟩
end Go.Proofs.YtddfikijehmoiaaDoor.paramsUnique
