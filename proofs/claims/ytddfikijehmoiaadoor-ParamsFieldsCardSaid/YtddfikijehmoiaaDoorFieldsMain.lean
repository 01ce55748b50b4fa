/- Law 20: ParamsFields. -/
import Derived.Test.YtddfikijehmoiaaDoorRoundMain
import Derived.Test.YtddfikijehmoiaaDoorLaidAt
namespace Go.Proofs.YtddfikijehmoiaaDoor.paramsFields
open Go.ChangeShapes Go.WideShapes Go.ChangeAt Go.RowKit
def atF (X : Pm) (k : Nat) : Nat := (flat ((pvals X).take k)).length
theorem atF_le (X : Pm) (k : Nat) : atF X k ≤ 48 := by
  unfold atF
  have := flat_le ((pvals X).take k)
  have h2 : ((pvals X).take k).length ≤ 6 := by rw [List.length_take]; exact Nat.min_le_right _ _
  omega
theorem atF_end (X : Pm) : atF X 6 = (encS X).size := by rw [encS_size]; rfl
theorem field_at (X : Pm) (hv : vldP X = true) (k : Nat) (hk : k < 6) : ∃ n : Int, (pvals X)[k]? = some n ∧ decV (bytesOf (encS X)) (atF X k) = (n, (atF X (k + 1) : Int), 0) ∧ wid n = (atF X (k + 1) : Int) - (atF X k : Int) := by
  have hl : k < (pvals X).length := hk
  refine ⟨(pvals X)[k], List.getElem?_eq_getElem hl, ?_⟩
  have e : (pvals X).take (k + 1) = (pvals X).take k ++ [(pvals X)[k]] := List.take_succ_eq_append_getElem hl
  have e2 : flat (pvals X) = flat ((pvals X).take k) ++ (encV (pvals X)[k] ++ flat ((pvals X).drop (k + 1))) := by
    have : pvals X = (pvals X).take k ++ ((pvals X)[k] :: (pvals X).drop (k + 1)) := by
      rw [List.getElem_cons_drop, List.take_append_drop]
    have h3 := congrArg flat this
    rw [h3]
    unfold flat
    rw [List.flatMap_append, List.flatMap_cons]
  have hw := encV_len (pvals X)[k]
  have ha : (atF X (k + 1) : Int) = atF X k + wid (pvals X)[k] := by
    unfold atF; rw [e, flat_snoc, List.length_append, ← hw]; simp
  refine ⟨?_, by omega⟩
  rw [encS_bytes, e2]
  have := decV_enc (pvals X)[k] (pvals_cls hv _ (List.getElem_mem hl)) (flat ((pvals X).take k)) (flat ((pvals X).drop (k + 1)))
  rw [ha]
  exact this
def RowX (X : Pm) (g : Nat) (w wr : World) (ad : Addr) : Prop := (∀ k n, (pvals X)[k]? = some n → wr.cell? ⟨g, k, none⟩ = some (.int .i64 n)) ∧ g < wr.heap.size ∧ Laid ad wr ∧ Below w.heap.size w wr
theorem RowX.below {X : Pm} {g : Nat} {w wr wq : World} {ad : Addr} (h : RowX X g w wr ad) (hb : Below wr.heap.size wr wq) : RowX X g w wq ad :=
  ⟨fun k n hk => (hb.cell (p := ⟨g, k, none⟩) h.2.1).trans (h.1 k n hk), Nat.lt_of_lt_of_le h.2.1 hb.size, h.2.2.1.below hb, btrans h.2.2.2 hb⟩
set_option maxRecDepth 100000 in
set_option maxHeartbeats 4000000 in
theorem walk (p : Pm) (hp : p.ok) (ad : Addr) (w : World) (h : Laid ad w) :
    Calls Tryd.prog 7 #[.agg p.cells] w (LB (.bool true) ad w) := by
  have P0 := Lib.hid (heap_alloc_new w (.cells p.cells 23))
  have L0 := Lib.hid (h.alloc (.cells p.cells 23))
  have B0 := Lib.hid ((Below.refl _ w).alloc (Nat.le_refl _) (.cells p.cells 23))
  have HF := Lib.hid (fun w h => kfrom p hp ad w h)
  have hv := fromP_valid p
  generalize fromP p = X at *
  have HE := Lib.hid (fun w h => kenc X hv ad w h)
  have HFA := Lib.hid (fun k hk => field_at X hv k hk)
  have hSl := encS_le X
  have HDC := Lib.hid (fun (a : Nat) w => decode_any (encS X) a w (by unfold maxLen; omega))
  have HEND := Lib.hid (atF_end X)
  have HPV : Hid (pvals X = [X.a, X.b, X.c, X.d, X.e, X.f]) := Lib.hid rfl
  generalize encS X = S at *
  clear h hv hp
  unfold Pm.cells at *
  go_enter Tryd.func7, Tryd.ntmps7
  go_wp2_with fail
  refine (sane_any ad _ L0.out).mono ?_
  rintro e w1 ⟨rfl, hb, hl⟩
  obtain ⟨a0, a1, a2, a3, a4, a5⟩ := box6 (p := p) (heap_below hb P0.out)
  have B1 := Lib.hid (btrans B0.out hb)
  have L1 := Lib.hid hl
  clear hb hl B0 P0 L0
  go_wp2_with fail
  refine (HF.out _ L1.out).mono ?_
  rintro e w2 ⟨rfl, hb, hl⟩
  have B2 := Lib.hid (btrans B1.out hb)
  have L2 := Lib.hid hl
  clear a0 a1 a2 a3 a4 a5 hb hl
  go_wp2_with fail
  have L3 := Lib.hid (L2.out.alloc (.cells X.cells 23))
  have P3 := Lib.hid (heap_alloc_new w2 (.cells X.cells 23))
  have B3 := Lib.hid (B2.out.alloc B2.out.size (.cells X.cells 23))
  refine (HE.out _ L3.out).mono ?_
  rintro e w3 ⟨rfl, hb, hl⟩
  obtain ⟨a0, a1, a2, a3, a4, a5⟩ := box6 (p := X) (heap_below hb P3.out)
  have B4 := Lib.hid (btrans B3.out hb)
  have L4 := Lib.hid hl
  clear hb hl B1 B2 B3 L1 L2 L3 P3
  go_wp2_with fail
  have R0 : Hid (RowX X w3.heap.size w (w3.alloc (.cells X.cells 3)) ad) := Lib.hid (by
    have hn := heap_alloc_new w3 (.cells X.cells 3)
    refine ⟨fun k n hk => ?_, by simp, L4.out.alloc _, B4.out.alloc B4.out.size _⟩
    rw [cell_whole hn]
    rw [HPV.out] at hk
    have : k = 0 ∨ k = 1 ∨ k = 2 ∨ k = 3 ∨ k = 4 ∨ k = 5 := by
      have := (List.getElem?_eq_some_iff.1 hk).1
      simp at this; omega
    rcases this with rfl | rfl | rfl | rfl | rfl | rfl <;> (cases hk; rfl))
  clear a0 a1 a2 a3 a4 a5 B4 L4
  go_loopw [7, 35] (fun t i wr => ∃ k : Nat, k ≤ 6 ∧ i = .int .i64 k ∧ t = .int .i64 (atF X k) ∧ RowX X w3.heap.size w wr ad) (fun _ i _ => 6 - (intOf i).toNat)
  case atStart => exact ⟨0, by omega, rfl, rfl, R0.out⟩
  case round =>
    obtain ⟨k, hk, rfl, rfl, hR⟩ := hrel
    have ha := atF_le X k
    have hb := atF_le X (k + 1)
    by_cases hlt : k < 6
    · obtain ⟨n, hn, hd, hw⟩ := HFA.out k hlt
      have hcell := hR.1 k n hn
      have hD := HDC.out (atF X k) wr
      rw [hd] at hD
      unfold trip at hD
      have HD := Lib.hid hD
      have HL := Lib.hid (fun w => len_any n w)
      have HW := Lib.hid hw
      have hwn : 0 ≤ wid n ∧ wid n ≤ 8 := ⟨by have := encV_len n; omega, wid_le n⟩
      have HR := Lib.hid hR
      generalize wid n = v at *
      obtain ⟨bb, hbb⟩ : ∃ bb, atF X (k + 1) = bb := ⟨_, rfl⟩
      rw [hbb] at HD hb HW
      have HBB := Lib.hid hbb
      clear hbb hd hw hD hn
      generalize atF X k = aa at *
      obtain rfl : v = (bb : Int) - (aa : Int) := HW.out
      clear hR HW
      have hx : IntKind.i64.wrap ((bb : Int) - (aa : Int)) = (bb : Int) - (aa : Int) := IntWalk.i64_in _ (by omega)
      go_wp2_with (first
        | (go_at_call 15; refine HD.out.mono ?_; rintro e w5 ⟨rfl, hb5⟩)
        | (go_at_call 16; refine (HL.out _).mono ?_; rintro e w6 ⟨rfl, hb6⟩))
      go_roundw
      case rel => exact ⟨k + 1, by omega, by simp, by rw [HBB.out], (HR.out.below hb5).below hb6⟩
      case measure => simp [intOf]; omega
    · obtain rfl : k = 6 := by omega
      have he := HEND.out
      have hb1 : ((atF X 6 : Int) == (S.size : Int)) = true := by rw [he]; simp
      have hb2 : decide (atF X 6 = S.size) = true := by simp [he]
      have HR := Lib.hid hR
      clear hR he hlt
      go_wp2
      go_ret
      exact ⟨rfl, HR.out.2.2.2, HR.out.2.2.1⟩
set_option maxRecDepth 100000 in
theorem main {H : Type} {enc : TypeId × Value → H} (W : World) (ad : Addr) (hl : Laid ad W) (d0 : DataW H) (_hw : (DataW.weightsEach Tryd.prog [23] [d0]).all (· ≤ reachBytes) = true)
    (b0 : Nat) (v0 : Value) (p0 : List MemPlace) (k0 : Value.okWide Tryd.prog W .any b0 23 v0) (h0 : DataW.Trod enc Tryd.prog W 0 (fun _ => true) true 23 v0 d0 p0) :
    Calls Tryd.prog 7 #[v0] W fun e w' => e = .returned (.bool true) ∧ Below W.heap.size W w' := by
  obtain ⟨pm, rfl, hok⟩ := open_pm k0 h0
  exact (walk pm hok ad W hl).mono fun e w' h => ⟨h.1, h.2.1⟩
end Go.Proofs.YtddfikijehmoiaaDoor.paramsFields
