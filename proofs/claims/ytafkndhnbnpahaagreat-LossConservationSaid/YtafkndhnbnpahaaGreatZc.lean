/- Law 13: Outstanding at packets without frames. -/
import Derived.Test.YtafkndhnbnpahaaGreatZb
namespace Go.Proofs.YtafkndhnbnpahaaGreat
open Go.RowKit Go.Maps
theorem setCell_self {w : World} {b i : Nat} {v : Value} (h : w.cell? ⟨b, i, none⟩ = some v) : w.setCell ⟨b, i, none⟩ v = w := by
  have hb : ∃ cs T fz, w.heap[b]? = some (.cells cs T fz) ∧ cs[i]? = some v := by
    unfold World.cell? at h
    split at h
    · rename_i c T fz e
      exact ⟨c, T, fz, e, by simpa using h⟩
    · cases h
  obtain ⟨cs, T, fz, hh, hc⟩ := hb
  have hs : cs.setIfInBounds i v = cs := by
    obtain ⟨hi, he⟩ := Array.getElem?_eq_some_iff.1 hc
    subst he
    exact Array.ext_getElem? (fun k => by
      by_cases e : i = k
      · subst e; simp [hi]
      · simp [e])
  have e : (w.setCell ⟨b, i, none⟩ v).heap = w.heap := by
    refine Array.ext_getElem? (fun k => ?_)
    by_cases e : k = b
    · subst e
      have : (w.setCell ⟨k, i, none⟩ v).heap[k]? = some (.cells (cs.setIfInBounds i v) T fz) := by simp [World.setCell, Array.getElem?_modify, hh]
      rw [this, hs, hh]
    · exact heap_setCell_other w _ k v (fun e2 => e e2)
  show World.setCell w _ v = w
  unfold World.setCell at e ⊢
  cases w
  simp only at e ⊢
  rw [e]
theorem filter_true (l : List Pk) : l.filter (fun _ => true) = l := List.filter_eq_self.2 (fun _ _ => rfl)
set_option maxRecDepth 100000 in
set_option maxHeartbeats 4000000 in
theorem out_nil {w : World} {b M : Nat} {R : Rc} (hR : RecAt w b M R) (ok : R.Ok) (hf : ∀ p ∈ R.l, p.fv = .slice none 0 0) :
    Calls Tryz.prog 18 #[.pointer (some ⟨b, 0, none⟩)] w (SelPost w R.l) := by
  have SEL := Lib.hid (sel_any hR ok (k := 46) (lb := #[]) (f := fun _ => true) (fun p hp W hW => want46 p W) ek46)
  rw [filter_true] at SEL
  have hlen : R.l.length ≤ 10000 := by have := ok.len; have := ok.n1; omega
  have HF := Lib.hid hf
  have CL := Lib.hid (fun p hp w => clone_nil p (hf p hp) w)
  clear hR ok hf
  generalize R.l = l at *
  go_enter Tryz.func18, Tryz.ntmps18
  go_wp2_with (go_at_call 45; refine (all_any _ _).mono ?_; rintro e w' ⟨rfl, rfl⟩)
  refine SEL.out.mono ?_
  rintro e w1 ⟨v, rfl, hv, hb1⟩
  rcases hv.form with ⟨rfl, hl0⟩ | ⟨g, cap, cur, rfl, hpos, hcap, hm, hg, hgg, hcell⟩
  · have H := Lib.hid (And.intro hv hb1)
    clear hv hb1
    go_wp2
    refine wp_loop_rounds 1 ?_
    rw [rounds_succ]
    go_wp2
    go_ret
    exact ⟨_, rfl, H.out.1, H.out.2⟩
  · have H := Lib.hid (And.intro hv (And.intro hb1 (And.intro hg (And.intro hgg hcell))))
    clear hv hb1 hg hgg hcell
    unfold maxLen at hm
    go_wp2
    go_loopw [11] (fun i wr => ∃ j : Nat, j ≤ l.length ∧ i = .int .i64 j ∧ Below w1.heap.size w1 wr) (fun i _ => l.length - (intOf i).toNat)
    case atStart => exact ⟨0, by omega, rfl, Below.refl _ _⟩
    case round =>
      obtain ⟨j, hj, rfl, hB⟩ := hrel
      have B := Lib.hid hB
      clear hB
      by_cases hlt : j < l.length
      · have hgn := Lib.hid (heap_below B.out H.out.2.2.2.1)
        have HC := Lib.hid (H.out.2.2.2.2 j hlt)
        have hk : ∀ k, wr.cell? ⟨g, k, none⟩ = w1.cell? ⟨g, k, none⟩ := fun k => World.cell?_of_block (a := ⟨g, k, none⟩) (hgn.out.trans H.out.2.2.2.1.symm)
        have q0 := (hk _).trans HC.out.1
        have q1 := (hk _).trans HC.out.2.1
        have q2 := (hk _).trans HC.out.2.2.1
        have q3 := (hk _).trans HC.out.2.2.2.1
        have q4 := (hk _).trans HC.out.2.2.2.2
        have C := Lib.hid (fun w => CL.out (l[j]'hlt) (List.getElem_mem hlt) w)
        have hfv := HF.out (l[j]'hlt) (List.getElem_mem hlt)
        clear hk HC
        generalize l[j]'hlt = p at *
        obtain ⟨pn, time, size, el, fv⟩ := p
        obtain rfl : fv = .slice none 0 0 := hfv
        simp only [Pk.val, Pk.cells] at q0 q1 q2 q3 q4 C
        have X := Lib.hid (box1 wr (.cells #[.int .i64 pn, .int .i64 time, .int .i64 size, .bool el, .slice none 0 0] 32))
        have Q := Lib.hid (And.intro q0 (And.intro q1 (And.intro q2 (And.intro q3 q4))))
        go_wp2_with fail
        refine (C.out _).mono ?_
        rintro e w2 ⟨rfl, hb2⟩
        have BB := Lib.hid (btrans X.out.2.1 hb2)
        have hg2 := heap_below BB.out hgn.out
        have hk : ∀ k, w2.cell? ⟨g, k, none⟩ = wr.cell? ⟨g, k, none⟩ := fun k => World.cell?_of_block (a := ⟨g, k, none⟩) (hg2.trans hgn.out.symm)
        have c0 := (hk _).trans Q.out.1
        have c1 := (hk _).trans Q.out.2.1
        have c2 := (hk _).trans Q.out.2.2.1
        have c3 := (hk _).trans Q.out.2.2.2.1
        have c4 := (hk _).trans Q.out.2.2.2.2
        have s0 := setCell_self c0
        have s1 := setCell_self c1
        have s2 := setCell_self c2
        have s3 := setCell_self c3
        have s4 := setCell_self c4
        have fz : ∀ k, w2.frozen? ⟨g, k, none⟩ = false := fun k => frozen_whole hg2 k
        have B2 := Lib.hid (B.out.trans (BB.out.mono B.out.size))
        clear hk q0 q1 q2 q3 q4 hb2 hg2
        go_wp2
        go_roundw
        case rel => exact ⟨j + 1, by omega, by go_num, B2.out⟩
        case measure => simp [intOf]; omega
      · obtain rfl : j = l.length := by omega
        clear hlt
        go_wp2
        go_ret
        exact ⟨_, rfl, H.out.1.below B.out, H.out.2.1.trans (B.out.mono H.out.2.1.size)⟩
end Go.Proofs.YtafkndhnbnpahaaGreat
