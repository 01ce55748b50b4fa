/- Law 13: a frame's parts: the map of all of them. -/
import Derived.Test.YtafkndhnbnpahaaGreatLk
namespace Go.Proofs.YtafkndhnbnpahaaGreat
open Go.RowKit Go.Maps
/-- the parts' own boxes -/
def intB (n : Nat) : Obj := .cells (intP n) 124
def txtB (n : Nat) : Obj := .cells (txtP n) 124
def fixB (n : Nat) : Obj := .cells (fixP n) 124
def rngP : Array Value := #[fnv 97, fnv 98, fnv 99]
section
variable {w0 v v1 : World} {os : List (Nat × Obj)}
theorem Os.two {n : Nat} {o1 o2 : Obj} (H : Os w0 os v) (hb : Below v.heap.size v v1) (h0 : v1.heap[n]? = some o1) (h1 : v1.heap[n + 1]? = some o2) (c1 : isC o1 = true) (c2 : isC o2 = true) : Os w0 ((n + 1, o2) :: (n, o1) :: os) v1 :=
  ((H.below hb).add h0 c1).add h1 c2
end
set_option maxRecDepth 100000 in
set_option maxHeartbeats 20000000 in
theorem parts_any (w : World) : Calls Tryz.prog 78 #[] w fun e w' => ∃ M bx L n, e = .returned (.map (some M)) ∧ Mp w bx L (.map (some M)) w' ∧ (∀ i, i < 78 → L i = true) ∧ Below w.heap.size w w' ∧ bx 7 = intP n ∧ bx 12 = rngP ∧ w'.heap[n]? = some (i64B 4611686018427387903) ∧ w'.heap[n + 1]? = some (fnB 131 92) := by
  have H0 := Lib.hid (Os.start w)
  go_enter Tryz.func78, Tryz.ntmps78
  go_wp2_with fail
  refine (int_ex _ _ _).mono ?_
  rintro e w1 ⟨n1, rfl, h0, h1, hb⟩
  have H1 := Lib.hid (Os.two H0.out hb h0 h1 rfl rfl)
  clear h0 h1 hb H0
  have G1 := Lib.hid (H1.out.alloc (intB n1) rfl)
  clear H1
  unfold intB intP at G1
  go_wp2_with fail
  generalize World.alloc w1 _ = v1 at G1 ⊢
  generalize w1.heap.size = a1 at G1 ⊢
  have H1 := G1; clear G1 w1
  refine (int_ex _ _ _).mono ?_
  rintro e w2 ⟨n2, rfl, h0, h1, hb⟩
  have H2 := Lib.hid (Os.two H1.out hb h0 h1 rfl rfl)
  clear h0 h1 hb H1
  have G2 := Lib.hid (H2.out.alloc (intB n2) rfl)
  clear H2
  unfold intB intP at G2
  go_wp2_with fail
  generalize World.alloc w2 _ = v2 at G2 ⊢
  generalize w2.heap.size = a2 at G2 ⊢
  have H2 := G2; clear G2 w2
  refine (int_ex _ _ _).mono ?_
  rintro e w3 ⟨n3, rfl, h0, h1, hb⟩
  have H3 := Lib.hid (Os.two H2.out hb h0 h1 rfl rfl)
  clear h0 h1 hb H2
  have G3 := Lib.hid (H3.out.alloc (intB n3) rfl)
  clear H3
  unfold intB intP at G3
  go_wp2_with fail
  generalize World.alloc w3 _ = v3 at G3 ⊢
  generalize w3.heap.size = a3 at G3 ⊢
  have H3 := G3; clear G3 w3
  refine (int_ex _ _ _).mono ?_
  rintro e w4 ⟨n4, rfl, h0, h1, hb⟩
  have H4 := Lib.hid (Os.two H3.out hb h0 h1 rfl rfl)
  clear h0 h1 hb H3
  have G4 := Lib.hid (H4.out.alloc (intB n4) rfl)
  clear H4
  unfold intB intP at G4
  go_wp2_with fail
  generalize World.alloc w4 _ = v4 at G4 ⊢
  generalize w4.heap.size = a4 at G4 ⊢
  have H4 := G4; clear G4 w4
  refine (int_ex _ _ _).mono ?_
  rintro e w5 ⟨n5, rfl, h0, h1, hb⟩
  have H5 := Lib.hid (Os.two H4.out hb h0 h1 rfl rfl)
  clear h0 h1 hb H4
  have G5 := Lib.hid (H5.out.alloc (intB n5) rfl)
  clear H5
  unfold intB intP at G5
  go_wp2_with fail
  generalize World.alloc w5 _ = v5 at G5 ⊢
  generalize w5.heap.size = a5 at G5 ⊢
  have H5 := G5; clear G5 w5
  refine (int_ex _ _ _).mono ?_
  rintro e w6 ⟨n6, rfl, h0, h1, hb⟩
  have H6 := Lib.hid (Os.two H5.out hb h0 h1 rfl rfl)
  clear h0 h1 hb H5
  have G6 := Lib.hid (H6.out.alloc (intB n6) rfl)
  clear H6
  unfold intB intP at G6
  go_wp2_with fail
  generalize World.alloc w6 _ = v6 at G6 ⊢
  generalize w6.heap.size = a6 at G6 ⊢
  have H6 := G6; clear G6 w6
  refine (int_ex _ _ _).mono ?_
  rintro e w7 ⟨n7, rfl, h0, h1, hb⟩
  have H7 := Lib.hid (Os.two H6.out hb h0 h1 rfl rfl)
  clear h0 h1 hb H6
  have G7 := Lib.hid (H7.out.alloc (intB n7) rfl)
  clear H7
  unfold intB intP at G7
  go_wp2_with fail
  generalize World.alloc w7 _ = v7 at G7 ⊢
  generalize w7.heap.size = a7 at G7 ⊢
  have H7 := G7; clear G7 w7
  refine (txt_ex _ _ _).mono ?_
  rintro e w8 ⟨n8, rfl, h0, h1, hb⟩
  have H8 := Lib.hid (Os.two H7.out hb h0 h1 rfl rfl)
  clear h0 h1 hb H7
  go_wp2_with fail
  refine (txt_ex _ _ _).mono ?_
  rintro e w9 ⟨n9, rfl, h0, h1, hb⟩
  have H9 := Lib.hid (Os.two H8.out hb h0 h1 rfl rfl)
  clear h0 h1 hb H8
  have G9 := Lib.hid ((H9.out.alloc (txtB n8) rfl).alloc (txtB n9) rfl)
  rw [World.size_alloc] at G9
  clear H9
  unfold txtB txtP fnv at G9
  go_wp2_with fail
  generalize World.alloc (World.alloc w9 _) _ = v9 at G9 ⊢
  generalize w9.heap.size = a9 at G9 ⊢
  have H9 := G9; clear G9 w9
  refine (fix_ex _ _ _).mono ?_
  rintro e w10 ⟨n10, rfl, h0, h1, hb⟩
  have H10 := Lib.hid (Os.two H9.out hb h0 h1 rfl rfl)
  clear h0 h1 hb H9
  have G10 := Lib.hid (H10.out.alloc (fixB n10) rfl)
  clear H10
  unfold fixB fixP at G10
  go_wp2_with fail
  generalize World.alloc w10 _ = v10 at G10 ⊢
  generalize w10.heap.size = a10 at G10 ⊢
  have H10 := G10; clear G10 w10
  refine (fix_ex _ _ _).mono ?_
  rintro e w11 ⟨n11, rfl, h0, h1, hb⟩
  have H11 := Lib.hid (Os.two H10.out hb h0 h1 rfl rfl)
  clear h0 h1 hb H10
  have G11 := Lib.hid (H11.out.alloc (fixB n11) rfl)
  clear H11
  unfold fixB fixP at G11
  have J := Lib.hid ((G11.out.alloc (.cells #[.func (.func 97) #[] #[], .func (.func 98) #[] #[], .func (.func 99) #[] #[]] 124) rfl))
  rw [World.size_alloc] at J
  clear G11
  go_wp2_with fail
  generalize World.alloc (World.alloc w11 _) _ = v11 at J ⊢
  generalize w11.heap.size = a11 at J ⊢
  refine lit_region (w0 := w) (ad := fun p => match p with | 1 => a1 | 2 => a2 | 3 => a3 | 4 => a4 | 5 => a5 | 6 => a6 | 7 => a7 | 8 => a9 | 9 => (a9 + 1) | 10 => a10 | 11 => a11 | 12 => (a11 + 1) | _ => 0) (bx := fun p => match p with | 1 => intP n1 | 2 => intP n2 | 3 => intP n3 | 4 => intP n4 | 5 => intP n5 | 6 => intP n6 | 7 => intP n7 | 8 => txtP n8 | 9 => txtP n9 | 10 => fixP n10 | 11 => fixP n11 | 12 => rngP | _ => #[]) ⟨by kernel_rfl, by kernel_rfl, by kernel_rfl⟩ (fun p h1 h2 => ?_) (inv_start J.out.drew rfl rfl (fun p h1 h2 => ?_)) (fun L a v hL hI => ?_)
  · have hp : p = 1 ∨ p = 2 ∨ p = 3 ∨ p = 4 ∨ p = 5 ∨ p = 6 ∨ p = 7 ∨ p = 8 ∨ p = 9 ∨ p = 10 ∨ p = 11 ∨ p = 12 := by omega
    rcases hp with rfl | rfl | rfl | rfl | rfl | rfl | rfl | rfl | rfl | rfl | rfl | rfl <;> exact ⟨by repeat (first | exact List.mem_cons_self | apply List.mem_cons_of_mem), rfl⟩
  · have hp : p = 1 ∨ p = 2 ∨ p = 3 ∨ p = 4 ∨ p = 5 ∨ p = 6 ∨ p = 7 ∨ p = 8 ∨ p = 9 ∨ p = 10 ∨ p = 11 ∨ p = 12 := by omega
    rcases hp with rfl | rfl | rfl | rfl | rfl | rfl | rfl | rfl | rfl | rfl | rfl | rfl <;> rfl
  have g0 := hI.asg (hL _ (by decide +kernel))
  have g1 := hI.mv g0.2
  obtain ⟨M, n, D, e1, hm⟩ := hI.mp g1.2
  have e0 : a.tmps.getD 0 undef = .map (some M) := g0.1.trans (g1.1.trans e1)
  go_wp2
  refine bodyPost_ret (v := .map (some M)) (by simp [results, Tryz.results78, go_sem] at e0 ⊢; exact e0) hI.nod ⟨M, _, L, n7, rfl, ⟨M, n, D, rfl, hm⟩, hL, hI.os.bel, rfl, rfl, hI.os.at (by repeat (first | exact List.mem_cons_self | apply List.mem_cons_of_mem)), hI.os.at (by repeat (first | exact List.mem_cons_self | apply List.mem_cons_of_mem))⟩
end Go.Proofs.YtafkndhnbnpahaaGreat
