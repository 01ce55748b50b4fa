/- Law 13: LossNil's walk. -/
import Derived.Test.YtafkndhnbnpahaaGreatZg
import Derived.Test.YtafkndhnbnpahaaGreatAg
namespace Go.Proofs.YtafkndhnbnpahaaGreat.lossNil
open Go.RowKit Go.WideShapes Go.ChangeShapes
set_option maxRecDepth 100000 in
set_option maxHeartbeats 8000000 in
theorem walk (p : Pk) (hf : ∃ a n c, p.fv = .slice a n c) (now d : Int) (w : World) :
    Calls Tryz.prog 9 #[p.val, .int .i64 now, .int .i64 d] w fun e w' => e = .returned (.bool true) ∧ Below w.heap.size w w' := by
  obtain ⟨pn, time, size, el, fv⟩ := p
  obtain ⟨a, n, c, e⟩ := hf
  obtain rfl : fv = .slice a n c := e
  have X := Lib.hid (box1 w (.cells #[.int .i64 pn, .int .i64 time, .int .i64 size, .bool el, .slice a n c] 32))
  have SN := Lib.hid (fun w => sent_none ⟨pn, time, size, el, .slice a n c⟩ w)
  simp only [Pk.val, Pk.cells] at SN ⊢
  go_enter Tryz.func9, Tryz.ntmps9
  go_wp2_with fail
  refine (sane_any _).mono ?_
  rintro e w1 ⟨rfl, hb⟩
  have B := Lib.hid (btrans X.out.2.1 hb)
  have hX := heap_below hb X.out.1
  clear hb X
  go_wp2_with fail
  have B2 := Lib.hid (B.out.trans (((Below.refl _ w1).alloc (Nat.le_refl _) (.cells #[.int .i64 0, .int .i64 1] 51)).mono B.out.size))
  have hX2 := heap_below ((Below.refl _ w1).alloc (Nat.le_refl _) (.cells #[.int .i64 0, .int .i64 1] 51)) hX
  clear hX B
  refine (ack_none now d 0 _ _ _ _).mono ?_
  rintro e w2 ⟨rfl, hb⟩
  have hX3 := heap_below hb hX2
  have B3 := Lib.hid (B2.out.trans (hb.mono B2.out.size))
  clear hX2 hb B2
  have c0 := at_whole hX3 0 rfl
  have c1 := at_whole hX3 1 rfl
  have c2 := at_whole hX3 2 rfl
  have c3 := at_whole hX3 3 rfl
  have c4 := at_whole hX3 4 rfl
  simp only [List.getElem_toArray, List.getElem_cons_zero, List.getElem_cons_succ] at c0 c1 c2 c3 c4
  clear hX3
  go_wp2_with fail
  refine (SN.out w2).mono ?_
  rintro e w3 ⟨rfl, hb⟩
  have B4 := Lib.hid (B3.out.trans (hb.mono B3.out.size))
  clear hb B3 c0 c1 c2 c3 c4
  go_wp2_with fail
  refine (expire_none now d w3).mono ?_
  rintro e w4 ⟨rfl, hb⟩
  have B5 := Lib.hid (B4.out.trans (hb.mono B4.out.size))
  clear hb B4
  go_wp2_with fail
  refine (out_none w4).mono ?_
  rintro e w5 ⟨rfl, hb⟩
  have B6 := Lib.hid (B5.out.trans (hb.mono B5.out.size))
  clear hb B5
  go_wp2_with fail
  refine (discard_none w5).mono ?_
  rintro e w6 ⟨rfl, hb⟩
  have B7 := Lib.hid (B6.out.trans (hb.mono B6.out.size))
  clear hb B6
  go_wp2_with fail
  refine (dead_none d w6).mono ?_
  rintro e w7 ⟨rfl, hb⟩
  have B8 := Lib.hid (B7.out.trans (hb.mono B7.out.size))
  clear hb B7
  go_wp2_with fail
  refine (last_none w7).mono ?_
  rintro e w8 ⟨rfl, hb⟩
  have B9 := Lib.hid (B8.out.trans (hb.mono B8.out.size))
  clear hb B8
  go_wp2_with fail
  refine (acked_none w8).mono ?_
  rintro e w9 ⟨rfl, rfl⟩
  go_wp2_with fail
  refine (next_none w8).mono ?_
  rintro e w9 ⟨rfl, rfl⟩
  go_wp2
  go_ret
  exact ⟨rfl, B9.out⟩
set_option maxRecDepth 100000 in
theorem main {H : Type} {enc : TypeId × Value → H} (W : World) (base0 : Nat) (v0 : Value) (d0 : DataW H) (p0 : List MemPlace) (hv0 : Value.okWide Tryz.prog W .any base0 32 v0) (h0 : DataW.Trod enc Tryz.prog W 0 (fun _ => true) true 32 v0 d0 p0)
    (base1 : Nat) (v1 : Value) (d1 : DataW H) (p1 : List MemPlace) (hv1 : Value.okWide Tryz.prog W .any base1 3 v1) (h1 : DataW.Trod enc Tryz.prog W 0 (fun _ => true) true 3 v1 d1 p1)
    (base2 : Nat) (v2 : Value) (d2 : DataW H) (p2 : List MemPlace) (hv2 : Value.okWide Tryz.prog W .any base2 3 v2) (h2 : DataW.Trod enc Tryz.prog W 0 (fun _ => true) true 3 v2 d2 p2) :
    Calls Tryz.prog 9 #[v0, v1, v2] W fun e w' => e = .returned (.bool true) ∧ Below W.heap.size W w' := by
  obtain ⟨q, rfl, hf, _, _, _⟩ := open_pk hv0 h0
  obtain ⟨a1, rfl, _, _, w1⟩ := open_int Tryz.underlying3 hv1 h1
  obtain ⟨a2, rfl, _, _, w2⟩ := open_int Tryz.underlying3 hv2 h2
  exact walk q hf a1 a2 W
end Go.Proofs.YtafkndhnbnpahaaGreat.lossNil
