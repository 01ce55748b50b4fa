/- Law 13: Expire, Discard, LastSent, Deadline. -/
import Derived.Test.YtafkndhnbnpahaaGreatZ
namespace Go.Proofs.YtafkndhnbnpahaaGreat
open Go.RowKit Go.Maps
theorem ek39 : ∀ args w, (callFunc 39 args).run Tryz.prog w = .ok (.enter 39 args) w := enters_of Tryz.func39 (by kernel_rfl) rfl
theorem ek41 : ∀ args w, (callFunc 41 args).run Tryz.prog w = .ok (.enter 41 args) w := enters_of Tryz.func41 (by kernel_rfl) rfl
theorem ek46 : ∀ args w, (callFunc 46 args).run Tryz.prog w = .ok (.enter 46 args) w := enters_of Tryz.func46 (by kernel_rfl) rfl
theorem ek50 : ∀ args w, (callFunc 50 args).run Tryz.prog w = .ok (.enter 50 args) w := enters_of Tryz.func50 (by kernel_rfl) rfl
theorem ek52 : ∀ args w, (callFunc 52 args).run Tryz.prog w = .ok (.enter 52 args) w := enters_of Tryz.func52 (by kernel_rfl) rfl
theorem ek57 : ∀ args w, (callFunc 57 args).run Tryz.prog w = .ok (.enter 57 args) w := enters_of Tryz.func57 (by kernel_rfl) rfl
theorem mkf (fn : Fn) (first cap : Array Value) (w : World) : (Instr.makeFunc fn first cap).run Tryz.prog w = .ok (.func fn first cap) w := rfl
theorem RemPost.lift {w w' w'' : World} {b M : Nat} {R : Rc} {f : Pk → Bool} {v : Value} (hb : Below w.heap.size w w') (h1 : PkRow w'.heap.size w'' v (R.l.filter f)) (h2 : RecAt w'' b M (R.cut f)) (h3 : Tu b M w' w'') :
    RemPost b M R f w (.returned v) w'' := ⟨v, rfl, h1.base hb.size, h2, (Tu.below hb).trans h3⟩
set_option maxRecDepth 100000 in
set_option maxHeartbeats 4000000 in
theorem expire_any {w : World} {b M : Nat} {R : Rc} (hR : RecAt w b M R) (ok : R.Ok) (now d : Int) (hn : 0 ≤ now) (hn' : now ≤ 9223372036854775807) (hd : 0 ≤ d) (hd' : d ≤ 9223372036854775807) :
    Calls Tryz.prog 14 #[.pointer (some ⟨b, 0, none⟩), .int .i64 now, .int .i64 d] w (RemPost b M R (exF R.lg now d) w) := by
  have X := Lib.hid (box3 w (.cells #[.pointer (some ⟨b, 0, none⟩)] 24) (.cells #[.int .i64 now] 3) (.cells #[.int .i64 d] 3))
  have REM := Lib.hid (remove_any (hR.below X.out.2.2.2.1) ok (k := 39) (lb := #[.pointer (some ⟨w.heap.size, 0, none⟩), .pointer (some ⟨w.heap.size + 1, 0, none⟩), .pointer (some ⟨w.heap.size + 1 + 1, 0, none⟩)]) (f := exF R.lg now d)
    (fun p hp W hW => want39 p _ _ _ b R.lg now d W (at_whole (heap_below hW X.out.1) 0 rfl) (at_whole (heap_below hW X.out.2.1) 0 rfl) (at_whole (heap_below hW X.out.2.2.1) 0 rfl) (at_whole (heap_below hW (hR.below X.out.2.2.2.1).1) 2 rfl)
      ⟨(ok.up.bnd p hp).1, by have := (ok.up.bnd p hp).2; have := ok.n1; omega⟩ hn hn' hd hd') ek39)
  have hmf := mkf
  clear hR ok
  go_enter Tryz.func14, Tryz.ntmps14
  go_wp2_with (go_at_call 38; refine REM.out.mono ?_; rintro e w1 ⟨v, rfl, h1, h2, h3⟩)
  go_ret
  exact RemPost.lift X.out.2.2.2.1 h1 h2 h3
set_option maxRecDepth 100000 in
set_option maxHeartbeats 2000000 in
theorem discard_any {w : World} {b M : Nat} {R : Rc} (hR : RecAt w b M R) (ok : R.Ok) :
    Calls Tryz.prog 27 #[.pointer (some ⟨b, 0, none⟩)] w (RemPost b M R (fun _ => true) w) := by
  have REM := Lib.hid (remove_any hR ok (k := 52) (lb := #[]) (f := fun _ => true) (fun p hp W hW => want52 p W) ek52)
  clear hR ok
  go_enter Tryz.func27, Tryz.ntmps27
  go_wp2_with (go_at_call 38; refine REM.out.mono ?_; rintro e w1 ⟨v, rfl, h1, h2, h3⟩)
  go_ret
  exact ⟨v, rfl, h1, h2, h3⟩
def lastT (l : List Pk) : Int := ((l.filter fun p => p.el).getLast?.map (·.time)).getD (-1)
set_option maxRecDepth 100000 in
set_option maxHeartbeats 2000000 in
theorem last_any {w : World} {b M : Nat} {R : Rc} (hR : RecAt w b M R) (ok : R.Ok) :
    Calls Tryz.prog 33 #[.pointer (some ⟨b, 0, none⟩)] w fun e w' => e = .returned (.int .i64 (lastT R.l)) ∧ Below w.heap.size w w' := by
  have SEL := Lib.hid (sel_any hR ok (k := 57) (lb := #[]) (f := fun p => p.el) (fun p hp W hW => want57 p W) ek57)
  have hlen : (R.l.filter fun p => p.el).length ≤ 10000 := by have := ok.len; have := ok.n1; have := List.length_filter_le (fun p : Pk => p.el) R.l; omega
  have E := Lib.hid (show lastT R.l = ((R.l.filter fun p => p.el).getLast?.map (·.time)).getD (-1) from rfl)
  clear hR ok
  generalize R.l.filter (fun p => p.el) = l at *
  go_enter Tryz.func33, Tryz.ntmps33
  go_wp2_with (go_at_call 45; refine (all_any _ _).mono ?_; rintro e w' ⟨rfl, rfl⟩)
  refine SEL.out.mono ?_
  rintro e w1 ⟨v, rfl, hv, hb1⟩
  rcases hv.form with ⟨rfl, hl0⟩ | ⟨g, cap, cur, rfl, hpos, hcap, hm, hg, hgg, hcell⟩
  · subst hl0
    go_wp2
    go_ret
    exact ⟨by rw [E.out]; rfl, hb1⟩
  · have hc := (hcell (l.length - 1) (by omega)).2.1
    have hx : ((l.length : Int) - 1).toNat = l.length - 1 := by omega
    have H := Lib.hid (And.intro hb1 hcell)
    have hne : ((l.length : Int) = 0) = False := eq_false (by omega)
    unfold maxLen at hm
    clear hv hb1 hcell hgg
    go_wp2
    go_ret
    refine ⟨?_, H.out.1⟩
    rw [E.out, List.getLast?_eq_getElem?, List.getElem?_eq_getElem (by omega)]
    rfl
def mnT (h : Int) (l : List Pk) : Int := l.foldl (fun m p => min m p.time) h
def deadT (l : List Pk) (d : Int) : Int := match l with
  | [] => -1
  | p :: t => mnT p.time (p :: t) + d
theorem mnT_snoc (h : Int) (l : List Pk) (p : Pk) : mnT h (l ++ [p]) = min (mnT h l) p.time := by unfold mnT; rw [List.foldl_append]; rfl
theorem mnT_bnd (h : Int) (l : List Pk) (hh : 0 ≤ h ∧ h ≤ 1125899906842624) (hl : ∀ p ∈ l, 0 ≤ p.time ∧ p.time ≤ 1125899906842624) : 0 ≤ mnT h l ∧ mnT h l ≤ 1125899906842624 := by
  induction l generalizing h with
  | nil => exact hh
  | cons p l ih =>
    refine ih _ ?_ (fun q hq => hl q (by simp [hq]))
    have := hl p (by simp)
    dsimp only
    omega
set_option maxRecDepth 100000 in
set_option maxHeartbeats 4000000 in
theorem deadline_any {w : World} {b M : Nat} {R : Rc} (hR : RecAt w b M R) (ok : R.Ok) (d : Int) (hd : 0 ≤ d) (hd' : d ≤ 1125899906842624) :
    Calls Tryz.prog 23 #[.pointer (some ⟨b, 0, none⟩), .int .i64 d] w fun e w' => e = .returned (.int .i64 (deadT (R.l.filter (dlF R.lg)) d)) ∧ Below w.heap.size w w' := by
  have X := Lib.hid (box1 w (.cells #[.pointer (some ⟨b, 0, none⟩)] 24))
  have SEL := Lib.hid (sel_any (hR.below X.out.2.1) ok (k := 50) (lb := #[.pointer (some ⟨w.heap.size, 0, none⟩)]) (f := dlF R.lg)
    (fun p hp W hW => want50 p _ b R.lg W (at_whole (heap_below hW X.out.1) 0 rfl) (at_whole (heap_below hW (hR.below X.out.2.1).1) 2 rfl)) ek50)
  have hlen : (R.l.filter (dlF R.lg)).length ≤ 10000 := by have := ok.len; have := ok.n1; have := List.length_filter_le (dlF R.lg) R.l; omega
  have htm := Lib.hid (fun p (hp : p ∈ R.l.filter (dlF R.lg)) => ok.tm p (List.mem_filter.1 hp).1)
  have hfv := Lib.hid (fun p (hp : p ∈ R.l.filter (dlF R.lg)) => ok.up.fvs p (List.mem_filter.1 hp).1)
  rw [World.size_alloc] at SEL
  have hmf := mkf
  clear hR ok
  generalize R.l.filter (dlF R.lg) = l at *
  have x0 := at_whole X.out.1 0 rfl
  simp only [List.getElem_toArray, List.getElem_cons_zero] at x0
  go_enter Tryz.func23, Tryz.ntmps23
  go_wp2_with (go_at_call 45; refine (all_any _ _).mono ?_; rintro e w' ⟨rfl, rfl⟩)
  refine SEL.out.mono ?_
  rintro e w1 ⟨v, rfl, hv, hb1⟩
  have hb2 : Below w.heap.size w w1 := btrans X.out.2.1 hb1
  rcases hv.form with ⟨rfl, hl0⟩ | ⟨g, cap, cur, rfl, hpos, hcap, hm, hg, hgg, hcell⟩
  · subst hl0
    clear hb1
    go_wp2
    go_ret
    exact ⟨rfl, hb2⟩
  · have HC := Lib.hid hcell
    have HB := Lib.hid hb2
    have hne : ((l.length : Int) = 0) = False := eq_false (by omega)
    have c1 := (hcell 0 hpos).2.1
    rw [Nat.zero_mul, Nat.zero_add] at c1
    have hd0 := Lib.hid (show deadT l d = mnT (l[0]'hpos).time l + d from by
      cases l with
      | nil => cases hpos
      | cons p t => rfl)
    have t0 := htm.out (l[0]'hpos) (List.getElem_mem hpos)
    generalize (l[0]'hpos).time = h0 at *
    have mb := Lib.hid (fun k => mnT_bnd h0 (l.take k) t0 (fun p hp => htm.out p (List.mem_of_mem_take hp)))
    have GG := Lib.hid hgg
    unfold maxLen at hm
    clear hv hb1 hb2 hcell hgg x0
    go_wp2
    go_loopw [6, 22] (fun m i wr => ∃ k : Nat, k ≤ l.length ∧ i = .int .i64 k ∧ m = .int .i64 (mnT h0 (l.take k)) ∧ Below w1.heap.size w1 wr) (fun _ i _ => l.length - (intOf i).toNat)
    case atStart => exact ⟨0, by omega, rfl, rfl, Below.refl _ _⟩
    case round =>
      obtain ⟨k, hk, rfl, rfl, hB⟩ := hrel
      have B := Lib.hid hB
      clear hB
      have mk := mb.out k
      by_cases hlt : k < l.length
      · have hgn : wr.heap[g]? = w1.heap[g]? := B.out.block g (heap_lt GG.out)
        have HK := Lib.hid (HC.out k hlt)
        have q0 : wr.cell? ⟨g, k * 5, none⟩ = _ := (World.cell?_of_block (a := ⟨g, k * 5, none⟩) hgn).trans HK.out.1
        have q1 : wr.cell? ⟨g, k * 5 + 1, none⟩ = _ := (World.cell?_of_block (a := ⟨g, k * 5 + 1, none⟩) hgn).trans HK.out.2.1
        have q2 : wr.cell? ⟨g, k * 5 + 2, none⟩ = _ := (World.cell?_of_block (a := ⟨g, k * 5 + 2, none⟩) hgn).trans HK.out.2.2.1
        have q3 : wr.cell? ⟨g, k * 5 + 3, none⟩ = _ := (World.cell?_of_block (a := ⟨g, k * 5 + 3, none⟩) hgn).trans HK.out.2.2.2.1
        have q4 : wr.cell? ⟨g, k * 5 + 4, none⟩ = _ := (World.cell?_of_block (a := ⟨g, k * 5 + 4, none⟩) hgn).trans HK.out.2.2.2.2
        have hpm : l[k]'hlt ∈ l := List.getElem_mem hlt
        obtain ⟨fa, fl, fc, e⟩ := hfv.out _ hpm
        rw [e] at q4
        have tk := htm.out _ hpm
        have hs := Lib.hid (show mnT h0 (l.take (k + 1)) = _ from by rw [List.take_succ_eq_append_getElem hlt, mnT_snoc])
        have BX := Lib.hid (B.out.trans (((Below.refl _ wr).alloc (Nat.le_refl _) (.cells #[.int .i64 (l[k]'hlt).pn, .int .i64 (l[k]'hlt).time, .int .i64 (l[k]'hlt).size, .bool (l[k]'hlt).el, .slice fa fl fc] 32)).mono B.out.size))
        generalize l[k]'hlt = p at *
        obtain ⟨pn, time, size, el, fv⟩ := p
        simp only at q0 q1 q2 q3 q4 hs tk BX
        clear e hgn
        go_wp2
        go_roundw
        case rel => exact ⟨k + 1, by omega, by go_num, by rw [hs.out], BX.out⟩
        case measure => simp [intOf]; omega
      · obtain rfl : k = l.length := by omega
        rw [List.take_length] at mk ⊢
        clear hlt
        have hw : IntKind.i64.wrap (mnT h0 l + d) = mnT h0 l + d := IntWalk.i64_in _ (by omega)
        go_wp2
        go_ret
        exact ⟨by rw [hd0.out]; rfl, HB.out.trans (B.out.mono HB.out.size)⟩
end Go.Proofs.YtafkndhnbnpahaaGreat
