/- CongestionMatchesReference: after each of at most forty calls the program's controller and the reference's hold the same. -/
import Derived.Test.YtcgcgdbcbmdahaaL
namespace Go.Proofs.Ytcgcgdbcbmdahaa.congestionMatchesReference
open Go.RowKit Go.WideShapes Go.ChangeShapes Go.Proofs.Ytcgcgdbcbmdahaa
theorem window_q {b : Nat} {c : Ctl} {w : World} (h : At w b c) (n : Nat) : Calls Try.prog 13 #[.pointer (some ⟨b, 0, none⟩)] (w.drewN n) fun e w' => e = .returned (.int .i64 c.size) ∧ ∃ m, w' = w.drewN m :=
  (window_any b c (w.drewN n) h).mono fun _ _ h => ⟨h.1, n, h.2.symm⟩
theorem flight_q {b : Nat} {c : Ctl} {w : World} (h : At w b c) (n : Nat) : Calls Try.prog 14 #[.pointer (some ⟨b, 0, none⟩)] (w.drewN n) fun e w' => e = .returned (.int .i64 c.flight) ∧ ∃ m, w' = w.drewN m :=
  (flight_any b c (w.drewN n) h).mono fun _ _ h => ⟨h.1, n, h.2.symm⟩
set_option maxRecDepth 100000 in
set_option maxHeartbeats 8000000 in
theorem walk (ps : List Prm) (v : Value) (n rtt : Int) (w : World) (hP : PAt w v ps) (hm : ps.length ≤ maxLen) (hw : ∀ q ∈ ps, q.wf) :
    Calls Try.prog 3 #[v, .int .i64 n, .int .i64 rtt] w fun e w' => e = .returned (.bool true) ∧ Below w.heap.size w w' := by
  obtain ⟨a, cap, rfl, hx⟩ := hP.form
  clear hP
  unfold maxLen at hm
  have HX := Lib.hid hx
  have HW := Lib.hid hw
  clear hx hw
  go_enter Try.func3, Try.ntmps3
  go_wp2_with (first | (go_at_call 8; refine (sane_any _).mono ?_; rintro e w1 ⟨rfl, hb⟩) | (go_at_call 9; refine (new_any _).mono ?_; rintro e w2 ⟨rfl, rfl⟩) | (go_at_call 10; refine (newR_any _).mono ?_; rintro e w2 ⟨rfl, rfl⟩))
  have hB0 : Below w.heap.size w ((w1.alloc (.cells newC.enc 50)).alloc (.cells newC.enc 34)) := (hb.alloc hb.size _).alloc (by have := hb.size; simp; omega) _
  have hA0 : At ((w1.alloc (.cells newC.enc 50)).alloc (.cells newC.enc 34)) w1.heap.size newC := ((Blk.start (at_of_new w1)).alloc _).1
  have hR0 : AtR ((w1.alloc (.cells newC.enc 50)).alloc (.cells newC.enc 34)) (w1.heap.size + 1) newC := by
    have := heap_alloc_new (w1.alloc (.cells newC.enc 50)) (.cells newC.enc 34)
    rwa [World.size_alloc] at this
  have hbb := hb.size
  generalize (w1.alloc (.cells newC.enc 50)).alloc (.cells newC.enc 34) = W0 at *
  generalize w1.heap.size = b at *
  clear hb
  go_loopw [10] (fun i wr => ∃ (k : Nat) (c : Ctl), k ≤ ps.length ∧ k ≤ 40 ∧ i = .int .i64 k ∧ At wr b c ∧ AtR wr (b + 1) c ∧ Ok ((k : Int) * 65536) c ∧ Below w.heap.size w wr) (fun i _ => 40 - (intOf i).toNat)
  case atStart => exact ⟨0, newC, by omega, by omega, rfl, hA0, hR0, newC_ok, hB0⟩
  case round =>
    obtain ⟨k, c, hk3, hk4, rfl, hA, hR, hO, hB⟩ := hrel
    by_cases hlt : k < ps.length ∧ k < 40
    · obtain ⟨hlt1, hlt2⟩ := hlt
      obtain ⟨p, hp⟩ : ∃ p, ps[k]? = some p := ⟨ps[k], by simp [hlt1]⟩
      have hwf := HW.out p (List.mem_of_getElem? hp)
      rcases HX.out with hnil | ⟨b2, off, rfl, hb2, hl2, hc2, hcell⟩
      · rw [hnil] at hlt1; simp at hlt1
      unfold maxLen at hc2
      obtain ⟨d0, d1, d2, d3⟩ := hcell k p hp
      clear hcell hp
      have CELLS : Hid (∀ w', Below w.heap.size w w' → w'.cell? ⟨b2, off + k * 4, none⟩ = some (.int .i64 p.kind) ∧ w'.cell? ⟨b2, off + k * 4 + 1, none⟩ = some (.int .i64 p.now) ∧ w'.cell? ⟨b2, off + k * 4 + 2, none⟩ = some (.int .i64 p.sent) ∧ w'.cell? ⟨b2, off + k * 4 + 3, none⟩ = some (.int .i64 p.n)) :=
        Lib.hid (fun w' h => ⟨(h.cell (p := ⟨b2, off + k * 4, none⟩) hb2).trans d0, (h.cell (p := ⟨b2, off + k * 4 + 1, none⟩) hb2).trans d1, (h.cell (p := ⟨b2, off + k * 4 + 2, none⟩) hb2).trans d2, (h.cell (p := ⟨b2, off + k * 4 + 3, none⟩) hb2).trans d3⟩)
      clear d0 d1 d2 d3
      obtain ⟨e0, e1, e2, e3⟩ := CELLS.out wr hB
      have D := Lib.hid (do_any b c p hwf wr hA _ (by omega) hO)
      have DR := Lib.hid (fun w' (h : AtR w' (b + 1) c) => refer_any (b + 1) c p hwf w' h _ (by omega) hO)
      have HR := Lib.hid hR
      have hO1 := doF_ok hO (by omega) p
      generalize doF c p = c1 at *
      have HO1 := Lib.hid hO1
      have HB := Lib.hid hB
      clear hB hO hO1 hR hA
      have hn2 : p.now ≤ 9223372036854775807 := hwf.2.1.2
      obtain ⟨o1, o2, o3, o4, o5, o6, o7⟩ := HO1.out
      have AL := Lib.hid (fun w3 (h : At w3 b c1) => allows_any b c1 p.now n rtt w3 h o3 (by omega) o1 o2 (by omega) (by omega) o7 hn2)
      have AR := Lib.hid (fun w3 (h : AtR w3 (b + 1) c1) => allowsR_any (b + 1) c1 p.now n rtt w3 h o3 (by omega) o1 o2 (by omega) (by omega) o7 hn2)
      have hRF := Lib.hid (refillF_ok HO1.out p.now rtt)
      generalize refillF c1 p.now rtt = c2 at *
      generalize allowsF c2 n = y at *
      have hk := pickF_range p.n 2 (by omega)
      have CK := Lib.hid (fun w => pick_any p.n 2 w hwf.2.2.2.1 hwf.2.2.2.2 (by omega) (by omega))
      generalize pickF p.n 2 = pk at *
      clear o1 o2 o3 o4 o5 o6 o7 hwf
      go_wp2_with (first | (go_at_call 11; refine D.out.mono ?_; rintro e w3 ⟨rfl, ht⟩; have HB3 := Lib.hid (below_grown HB.out ht.2 hbb); obtain ⟨f0, f1, f2, f3⟩ := CELLS.out w3 HB3.out; have HR3 : Hid (AtR w3 (b + 1) c) := Lib.hid (heap_grown ht.2 HR.out (by omega))) | (go_at_call 12; refine (DR.out _ HR3.out).mono ?_; rintro e w4 ⟨rfl, htr⟩; have HB4 := Lib.hid (below_grown HB3.out htr.2 (by omega)); obtain ⟨g0, g1, g2, g3⟩ := CELLS.out w4 HB4.out; have HA4 : Hid (At w4 b c1) := Lib.hid (heap_grown htr.2 ht.1 (by omega)); have HR4 : Hid (AtR w4 (b + 1) c1) := Lib.hid htr.1))
      obtain ⟨z0, _, z2, _, _, _, _, _⟩ := HR4.out.facts
      have q1 : (c1.size != c1.size) = false := by simp
      have q2 : (c1.flight != c1.flight) = false := by simp
      go_quiet ((first | (go_at_call 13; exact window_q HA4.out _) | (go_at_call 14; exact flight_q HA4.out _)))
      have HB5 : Hid (Below w.heap.size w (w4.drewN nq)) := Lib.hid (HB4.out.trans ⟨rfl, rfl, rfl, Nat.le_refl _, fun _ _ => rfl⟩)
      have HA5 : Hid (At (w4.drewN nq) b c1) := Lib.hid HA4.out
      have HR5 : Hid (AtR (w4.drewN nq) (b + 1) c1) := Lib.hid HR4.out
      clear e0 e1 e2 e3 f0 f1 f2 f3 g0 g1 g2 g3 z0 z2 HA4 HR4 HB4 HB3 HR3 ht htr
      generalize w4.drewN nq = w5 at *
      obtain ⟨i0, i1, i2, i3⟩ := CELLS.out w5 HB5.out
      have hyy : (y != y) = false := by simp
      by_cases hpk : pk = 0
      · subst hpk
        go_wp2_with (first | (go_at_call 15; refine (CK.out _).mono ?_; rintro e w6 ⟨rfl, rfl⟩) | (go_at_call 16; refine (AL.out _ HA5.out).mono ?_; rintro e w6 ⟨rfl, ht6⟩; have HB6 := Lib.hid (below_grown HB5.out ht6.2 hbb); obtain ⟨j0, j1, j2, j3⟩ := CELLS.out w6 HB6.out; have HR6 : Hid (AtR w6 (b + 1) c1) := Lib.hid (heap_grown ht6.2 HR5.out (by omega))) | (go_at_call 17; refine (AR.out _ HR6.out).mono ?_; rintro e w7 ⟨rfl, ht7⟩; have HA7 : Hid (At w7 b c2) := Lib.hid (heap_grown ht7.2 ht6.1 (by omega)); have HR7 : Hid (AtR w7 (b + 1) c2) := Lib.hid ht7.1; have HB7 := Lib.hid (below_grown HB6.out ht7.2 (by omega))))
        go_roundw
        case rel => exact ⟨k + 1, c2, by omega, by omega, by simp, HA7.out, HR7.out, hRF.out.up (by omega), HB7.out⟩
        case measure => simp [intOf]; omega
      · have hp0 : (pk == 0) = false := by simpa using hpk
        clear hpk
        go_wp2_with (go_at_call 15; refine (CK.out _).mono ?_; rintro e w6 ⟨rfl, rfl⟩)
        go_roundw
        case rel => exact ⟨k + 1, c1, by omega, by omega, by simp, HA5.out, HR5.out, HO1.out.up (by omega), HB5.out⟩
        case measure => simp [intOf]; omega
    · have hcase : (k < ps.length ∧ 40 ≤ k) ∨ ps.length ≤ k := by omega
      clear hlt
      rcases hcase with ⟨hc1, hc2⟩ | hc1
      all_goals
        go_wp2
        go_ret
        exact ⟨rfl, hB⟩
theorem main {H : Type} {enc : TypeId × Value → H} (W : World) (base0 : Nat) (v0 : Value) (d0 : DataW H) (p0 : List MemPlace) (hv0 : Value.okWide Try.prog W .any base0 22 v0) (h0 : DataW.Trod enc Try.prog W 0 (fun _ => true) true 22 v0 d0 p0)
    (base1 : Nat) (v1 : Value) (d1 : DataW H) (p1 : List MemPlace) (hv1 : Value.okWide Try.prog W .any base1 3 v1) (h1 : DataW.Trod enc Try.prog W 0 (fun _ => true) true 3 v1 d1 p1)
    (base2 : Nat) (v2 : Value) (d2 : DataW H) (p2 : List MemPlace) (hv2 : Value.okWide Try.prog W .any base2 3 v2) (h2 : DataW.Trod enc Try.prog W 0 (fun _ => true) true 3 v2 d2 p2) :
    Calls Try.prog 3 #[v0, v1, v2] W fun e w' => e = .returned (.bool true) ∧ Below W.heap.size W w' := by
  obtain ⟨ps, hP, hm, hw⟩ := prms_at hv0 h0
  obtain ⟨n, rfl, _, _, w1⟩ := open_int Try.underlying3 hv1 h1
  obtain ⟨r, rfl, _, _, w2⟩ := open_int Try.underlying3 hv2 h2
  exact walk ps v0 n r W hP hm hw
end Go.Proofs.Ytcgcgdbcbmdahaa.congestionMatchesReference
