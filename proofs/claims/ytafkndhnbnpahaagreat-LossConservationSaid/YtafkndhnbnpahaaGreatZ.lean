/- Law 13: remove. -/
import Derived.Test.YtafkndhnbnpahaaGreatY
namespace Go.Proofs.YtafkndhnbnpahaaGreat
open Go.RowKit Go.Maps
/-- what is left when the first k of the chosen ones are struck -/
def Lk (l : List Pk) (f : Pk → Bool) (k : Nat) : List Pk := l.filter fun p => !((l.filter f).take k).any fun q => q.pn == p.pn
theorem Lk_zero (l : List Pk) (f : Pk → Bool) : Lk l f 0 = l := by unfold Lk; simp
theorem Lk_succ (l : List Pk) (f : Pk → Bool) (k : Nat) (hk : k < (l.filter f).length) : (Lk l f k).filter (fun p => p.pn != ((l.filter f)[k]'hk).pn) = Lk l f (k + 1) := by
  unfold Lk
  rw [List.filter_filter, List.take_succ_eq_append_getElem hk]
  congr 1
  funext p
  simp only [List.any_append, List.any_cons, List.any_nil, Bool.or_false, Bool.not_or]
  rw [Bool.and_comm]
  congr 1
  rw [show (p.pn != ((l.filter f)[k]'hk).pn) = !(((l.filter f)[k]'hk).pn == p.pn) from by rw [bne, Bool.beq_comm]]
theorem Lk_end (l : List Pk) (f : Pk → Bool) (nx : Int) (hu : Up nx l) : Lk l f (l.filter f).length = l.filter fun p => !f p := by
  unfold Lk
  rw [List.take_length]
  refine List.filter_congr fun p hp => ?_
  congr 1
  rw [Bool.eq_iff_iff, List.any_eq_true]
  constructor
  · rintro ⟨q, hq, e⟩
    obtain ⟨h1, h2⟩ := List.mem_filter.1 hq
    have e : q.pn = p.pn := by simpa using e
    have : q = p := by
      obtain ⟨i, hi, rfl⟩ := List.getElem_of_mem h1
      obtain ⟨j, hj, rfl⟩ := List.getElem_of_mem hp
      have h3 := List.pairwise_iff_getElem.1 hu.inc
      rcases Nat.lt_trichotomy i j with h | h | h
      · have := h3 i j hi hj h; omega
      · subst h; rfl
      · have := h3 j i hj hi h; omega
    rw [← this]; exact h2
  · intro h
    exact ⟨p, List.mem_filter.2 ⟨hp, h⟩, by simp⟩
theorem Lk_sub (l : List Pk) (f : Pk → Bool) (k : Nat) : ∀ p ∈ Lk l f k, p ∈ l := fun _p hp => (List.mem_filter.1 hp).1
def Rc.cut (R : Rc) (f : Pk → Bool) : Rc := { R with l := R.l.filter fun p => !f p }
theorem Rc.Ok.cut {R : Rc} (h : R.Ok) (f : Pk → Bool) : (R.cut f).Ok :=
  ⟨h.up.filter _, h.n0, h.n1, h.g0, h.g1, by have := h.len; have : (R.l.filter fun p => !f p).length ≤ R.l.length := List.length_filter_le _ _; show ((R.l.filter fun p => !f p).length : Int) ≤ R.nx; omega, fun p hp => h.tm p (List.mem_filter.1 hp).1⟩
def RemPost (b M : Nat) (R : Rc) (f : Pk → Bool) (w : World) (e : Ending) (w' : World) : Prop := ∃ v, e = .returned v ∧ PkRow w.heap.size w' v (R.l.filter f) ∧ RecAt w' b M (R.cut f) ∧ Tu b M w w'
set_option maxRecDepth 100000 in
set_option maxHeartbeats 4000000 in
theorem remove_any {w : World} {b M : Nat} {R : Rc} (hR : RecAt w b M R) (ok : R.Ok) {k : Nat} {lb : Array Value} {f : Pk → Bool} (hw : Wants w k lb f R.l) (ek : ∀ args w, (callFunc k args).run Tryz.prog w = .ok (.enter k args) w) :
    Calls Tryz.prog 38 #[.pointer (some ⟨b, 0, none⟩), .func (.func k) #[] lb] w (RemPost b M R f w) := by
  have SEL := Lib.hid (sel_any hR ok hw ek)
  have HR := Lib.hid hR
  have OK := Lib.hid ok
  have hlen : (R.l.filter f).length ≤ 10000 := by have := ok.len; have := ok.n1; have := List.length_filter_le f R.l; omega
  clear hR ok hw
  go_enter Tryz.func38, Tryz.ntmps38
  go_wp2_with (first | (go_at_call 45; refine (all_any _ _).mono ?_; rintro e w' ⟨rfl, rfl⟩) | (go_at_call 44; refine SEL.out.mono ?_; rintro e w1 ⟨v, rfl, hv, hb1⟩; rcases hv.form with ⟨rfl, hl0⟩ | ⟨g, cap, cur, rfl, hpos, hcap, hm, hg, hgg, hcell⟩))
  · have hL : R.cut f = R := by
      have := Lk_end R.l f R.nx OK.out.up
      rw [hl0, List.length_nil, Lk_zero] at this
      unfold Rc.cut
      rw [← this]
    have H := Lib.hid (And.intro hv hb1)
    clear hv hb1
    refine wp_loop_rounds 1 ?_
    rw [rounds_succ]
    go_wp2
    go_ret
    refine ⟨_, rfl, H.out.1, ?_, Tu.below H.out.2⟩
    rw [hL]
    exact HR.out.below H.out.2
  · have H := Lib.hid (And.intro hv (And.intro hb1 (And.intro hg (And.intro hgg hcell))))
    have HR1 := Lib.hid (HR.out.below hb1)
    clear hv hb1 hg hgg hcell
    unfold maxLen at hm
    go_loopw [14] (fun i wr => ∃ j : Nat, j ≤ (R.l.filter f).length ∧ i = .int .i64 j ∧ RecAt wr b M { R with l := Lk R.l f j } ∧ Tu b M w1 wr) (fun i _ => (R.l.filter f).length - (intOf i).toNat)
    case atStart => exact ⟨0, by omega, rfl, by rw [Lk_zero]; exact HR1.out, Tu.refl _ _ _⟩
    case round =>
      obtain ⟨j, hj, rfl, hRj, hT⟩ := hrel
      have HJ := Lib.hid (And.intro hRj hT)
      clear hRj hT
      by_cases hlt : j < (R.l.filter f).length
      · have hgn := Lib.hid (HJ.out.2.block g (heap_lt H.out.2.2.2.1) (HR1.out.not_row H.out.2.2.2.1).1 (HR1.out.not_row H.out.2.2.2.1).2)
        have HC := Lib.hid (H.out.2.2.2.2 j hlt)
        have q0 : wr.cell? ⟨g, j * 5, none⟩ = _ := (World.cell?_of_block (a := ⟨g, j * 5, none⟩) hgn.out).trans HC.out.1
        have q1 : wr.cell? ⟨g, j * 5 + 1, none⟩ = _ := (World.cell?_of_block (a := ⟨g, j * 5 + 1, none⟩) hgn.out).trans HC.out.2.1
        have q2 : wr.cell? ⟨g, j * 5 + 2, none⟩ = _ := (World.cell?_of_block (a := ⟨g, j * 5 + 2, none⟩) hgn.out).trans HC.out.2.2.1
        have q3 : wr.cell? ⟨g, j * 5 + 3, none⟩ = _ := (World.cell?_of_block (a := ⟨g, j * 5 + 3, none⟩) hgn.out).trans HC.out.2.2.2.1
        have q4 : wr.cell? ⟨g, j * 5 + 4, none⟩ = _ := (World.cell?_of_block (a := ⟨g, j * 5 + 4, none⟩) hgn.out).trans HC.out.2.2.2.2
        have hpm : (R.l.filter f)[j]'hlt ∈ R.l := (List.mem_filter.1 (List.getElem_mem hlt)).1
        have hfv := OK.out.up.fvs _ hpm
        have hLS := Lib.hid (Lk_succ R.l f j hlt)
        have hbd := Lib.hid (And.intro (OK.out.up.bnd _ hpm) OK.out.n1)
        generalize (R.l.filter f)[j]'hlt = p at *
        obtain ⟨pn, time, size, el, fv⟩ := p
        obtain ⟨fa, fl, fc, e⟩ := hfv
        obtain rfl : fv = .slice fa fl fc := e
        simp only at q0 q1 q2 q3 q4
        have X := Lib.hid (box1 wr (.cells #[.int .i64 pn, .int .i64 time, .int .i64 size, .bool el, .slice fa fl fc] 32))
        have cb := at_whole (HJ.out.1.below X.out.2.1).1 0 rfl
        have cp := at_whole X.out.1 0 rfl
        simp only [List.getElem_toArray, List.getElem_cons_zero] at cb cp
        clear hpm
        go_wp2
        have HJ1 := Lib.hid (HJ.out.1.below X.out.2.1)
        have HT1 := Lib.hid (HJ.out.2.trans (Tu.below X.out.2.1))
        generalize wr.alloc _ = V at X cb cp HJ1 HT1 ⊢
        go_still_tail 6, (by kernel_rfl)
        obtain ⟨D, hD, hH⟩ := HJ1.out.2
        have hkey : keyOf Tryz.prog 3 (.int .i64 pn) = some (.int .i64 pn) := Maps.keyOf_int_mk Tryz.underlying3 (pnWf hbd.out.1.1 (by have := hbd.out; omega))
        refine wpList_delete_own _ rfl _ _ 73 3 rfl 32 (Maps.int_keyed Tryz.underlying3) Tryz.underlying73 _ M _ D rfl (World.ownsMap.drew hD) _ _ rfl hkey ?_
        intro w3 hown3 hturn3
        have HJ3 := Lib.hid (show RecAt w3 b M { R with l := Lk R.l f (j + 1) } from by
          have h2 := (HJ1.out.1 : V.heap[b]? = _)
          refine ⟨(hturn3.grown.block b (heap_lt h2) (fun e => HJ1.out.ne (by cases e; rfl))).trans h2, _, hown3, ?_⟩
          rw [← hLS.out]
          exact hH.del pn)
        have HT3 := Lib.hid (HT1.out.drew.trans (Tu.map hturn3.grown))
        clear hD hH hown3 hturn3 hkey cb cp q0 q1 q2 q3 q4
        go_wp2
        go_roundw
        case rel => exact ⟨j + 1, by omega, by go_num, HJ3.out, HT3.out⟩
        case measure => simp [intOf]; omega
      · obtain rfl : j = (R.l.filter f).length := by omega
        clear hlt
        go_wp2
        go_ret
        refine ⟨_, rfl, H.out.1.turn HR1.out HJ.out.2, ?_, (Tu.below H.out.2.1).trans HJ.out.2⟩
        have := HJ.out.1
        rw [Lk_end R.l f R.nx OK.out.up] at this
        exact this
end Go.Proofs.YtafkndhnbnpahaaGreat
