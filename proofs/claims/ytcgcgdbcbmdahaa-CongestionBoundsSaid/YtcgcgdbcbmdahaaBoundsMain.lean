/- CongestionBounds: the window stays from 1024 to 65536, the bytes in flight are never negative, and Allows is false where the window would be exceeded. -/
import Derived.Test.YtcgcgdbcbmdahaaL
namespace Go.Proofs.Ytcgcgdbcbmdahaa.congestionBounds
open Go.RowKit Go.WideShapes Go.ChangeShapes Go.Proofs.Ytcgcgdbcbmdahaa
set_option maxRecDepth 100000 in
set_option maxHeartbeats 8000000 in
theorem walk (ps : List Prm) (v : Value) (n : Int) (w : World) (hP : PAt w v ps) (hm : ps.length ≤ maxLen) (hw : ∀ q ∈ ps, q.wf) (n1 : -9223372036854775808 ≤ n) (n2 : n ≤ 9223372036854775807) :
    Calls Try.prog 4 #[v, .int .i64 n] w fun e w' => e = .returned (.bool true) ∧ Below w.heap.size w w' := by
  obtain ⟨a, cap, rfl, hx⟩ := hP.form
  clear hP
  unfold maxLen at hm
  have CK := Lib.hid (fun w => pick_any n 65536 w n1 n2 (by omega) (by omega))
  have hk := pickF_range n 65536 (by omega)
  have hkb : bytesF (pickF n 65536) = pickF n 65536 := by unfold bytesF; rw [if_neg (by omega : ¬ pickF n 65536 < 0), if_neg (by omega)]
  generalize pickF n 65536 = kk at *
  obtain ⟨hk1, hk2⟩ := hk
  have HKB := Lib.hid hkb
  have HX := Lib.hid hx
  have HW := Lib.hid hw
  clear hx hw hkb
  go_enter Try.func4, Try.ntmps4
  go_wp2_with (first | (go_at_call 8; refine (sane_any _).mono ?_; rintro e w1 ⟨rfl, hb⟩) | (go_at_call 9; refine (new_any _).mono ?_; rintro e w2 ⟨rfl, rfl⟩))
  have hB0 : Below w.heap.size w (w1.alloc (.cells newC.enc 50)) := hb.alloc hb.size _
  have hA0 := at_of_new w1
  have hbb := hb.size
  generalize w1.alloc (.cells newC.enc 50) = W0 at *
  generalize w1.heap.size = b at *
  clear hb
  go_loopw [7] (fun i wr => ∃ (k : Nat) (c : Ctl), k ≤ ps.length ∧ k ≤ 40 ∧ i = .int .i64 k ∧ At wr b c ∧ Ok ((k : Int) * 65536) c ∧ Below w.heap.size w wr) (fun i _ => 40 - (intOf i).toNat)
  case atStart => exact ⟨0, newC, by omega, by omega, rfl, hA0, newC_ok, hB0⟩
  case round =>
    obtain ⟨k, c, hk3, hk4, rfl, hA, hO, hB⟩ := hrel
    by_cases hlt : k < ps.length ∧ k < 40
    · obtain ⟨hlt1, hlt2⟩ := hlt
      obtain ⟨p, hp⟩ : ∃ p, ps[k]? = some p := ⟨ps[k], by simp [hlt1]⟩
      have hwf := HW.out p (List.mem_of_getElem? hp)
      rcases HX.out with hnil | ⟨b2, off, rfl, hb2, hl2, hc2, hcell⟩
      · rw [hnil] at hlt1; simp at hlt1
      unfold maxLen at hc2
      obtain ⟨d0, d1, d2, d3⟩ := hcell k p hp
      clear hcell hp
      have e0 := (hB.cell (p := ⟨b2, off + k * 4, none⟩) hb2).trans d0
      have e1 := (hB.cell (p := ⟨b2, off + k * 4 + 1, none⟩) hb2).trans d1
      have e2 := (hB.cell (p := ⟨b2, off + k * 4 + 2, none⟩) hb2).trans d2
      have e3 := (hB.cell (p := ⟨b2, off + k * 4 + 3, none⟩) hb2).trans d3
      have D := Lib.hid (do_any b c p hwf wr hA _ (by omega) hO)
      have hO1 := doF_ok hO (by omega) p
      generalize doF c p = c1 at *
      have HO1 := Lib.hid hO1
      have HB := Lib.hid hB
      clear hB hO hO1
      have hn2 : p.now ≤ 9223372036854775807 := hwf.2.1.2
      obtain ⟨o1, o2, o3, o4, o5, o6, o7⟩ := HO1.out
      have AL := Lib.hid (fun w3 (h : At w3 b c1) => allows_any b c1 p.now kk 10 w3 h o3 (by omega) o1 o2 (by omega) (by omega) o7 hn2)
      have hR := refillF_ok HO1.out p.now 10
      generalize refillF c1 p.now 10 = c2 at *
      have HR2 := Lib.hid hR
      obtain ⟨r1, r2, r3, r4, r5, r6, r7⟩ := hR
      have hfl : allowsF c2 kk = true → c2.flight + kk ≤ c2.size := by
        intro h; unfold allowsF at h; rw [HKB.out] at h; simp at h; exact h.1
      obtain ⟨y, hy⟩ : ∃ y, allowsF c2 kk = y := ⟨_, rfl⟩
      rw [hy] at AL hfl
      clear hy o1 o2 o3 o4 o5 o6 o7 r5 r6 r7
      cases y
      all_goals
        first | have hfl2 := hfl rfl | skip
        first | have hfl3 : decide (c2.size < c2.flight + kk) = false := by simpa using hfl2 | skip
        clear hfl
        have g1 : decide (c2.size < 1024) = false := by simpa using r1
        have g2 : decide (65536 < c2.size) = false := by simpa using r2
        have g3 : decide (c2.flight < 0) = false := by simpa using r3
        go_wp2_with (first | (go_at_call 11; refine D.out.mono ?_; rintro e w3 ⟨rfl, ht⟩; have e1' := ((below_grown HB.out ht.2 hbb).cell (p := ⟨b2, off + k * 4 + 1, none⟩) hb2).trans d1) | (go_at_call 15; refine (CK.out _).mono ?_; rintro e w4 ⟨rfl, rfl⟩) | (go_at_call 16; refine (AL.out _ ht.1).mono ?_; rintro e w5 ⟨rfl, ht5⟩; have HT := Lib.hid ht5.1) | (go_at_call 13; refine (window_any b c2 _ HT.out).mono ?_; rintro e w6 ⟨rfl, rfl⟩) | (go_at_call 14; refine (flight_any b c2 _ HT.out).mono ?_; rintro e w6 ⟨rfl, rfl⟩))
        go_roundw
        case rel => exact ⟨k + 1, c2, by omega, by omega, by simp, HT.out, HR2.out.up (by omega), below_grown (below_grown HB.out ht.2 hbb) ht5.2 hbb⟩
        case measure => simp [intOf]; omega
    · have hcase : (k < ps.length ∧ 40 ≤ k) ∨ ps.length ≤ k := by omega
      clear hlt
      rcases hcase with ⟨hc1, hc2⟩ | hc1
      all_goals
        go_wp2
        go_ret
        exact ⟨rfl, hB⟩
theorem main {H : Type} {enc : TypeId × Value → H} (W : World) (base0 : Nat) (v0 : Value) (d0 : DataW H) (p0 : List MemPlace) (hv0 : Value.okWide Try.prog W .any base0 22 v0) (h0 : DataW.Trod enc Try.prog W 0 (fun _ => true) true 22 v0 d0 p0)
    (base1 : Nat) (v1 : Value) (d1 : DataW H) (p1 : List MemPlace) (hv1 : Value.okWide Try.prog W .any base1 3 v1) (h1 : DataW.Trod enc Try.prog W 0 (fun _ => true) true 3 v1 d1 p1) :
    Calls Try.prog 4 #[v0, v1] W fun e w' => e = .returned (.bool true) ∧ Below W.heap.size W w' := by
  obtain ⟨ps, hP, hm, hw⟩ := prms_at hv0 h0
  obtain ⟨n, rfl, _, _, w1⟩ := open_int Try.underlying3 hv1 h1
  exact walk ps v0 n W hP hm hw (bounds_i64 w1).1 (bounds_i64 w1).2
end Go.Proofs.Ytcgcgdbcbmdahaa.congestionBounds
