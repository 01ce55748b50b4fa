import Derived.Test.YtmjekepiplibkaaSpA
import Derived.Test.YtmjekepiplibkaaS
namespace Go.Proofs.Ytmjekepiplibkaa
open Go.RowKit
section
variable {W w : World} {b : Nat} {F : Nat → Prop} {os : List (Nat × Obj)} {v : Value} {l : List Fr} {n step i : Nat} {D : Nat → Bool} {X : Wh}
theorem stream100 (w : World) : Calls Try.prog 10 #[.int .i64 100] w fun e w' => e = .returned (.string (strOfNums (streamRow 100 100))) ∧ Below w.heap.size w w' := stream_any 100 w (by decide)
theorem sp_new (k : Nat) (hk : k < 60) (hB : Below W.heap.size W w) : Calls Try.prog 12 #[.int .i64 (2 + (k : Int))] w fun e w' => e = .returned (.tuple #[.pointer (some ⟨w.heap.size, 0, none⟩), .int .i64 0]) ∧ Sf W w' w.heap.size (fun k => k = w.heap.size) (newX ((k + 2 : Nat) : Int)) [] (.slice none 0 0) [] := by
  rw [show (2 + (k : Int)) = ((k + 2 : Nat) : Int) by omega]
  exact sf_new _ (by omega) (by omega) hB
theorem sp_write (h : Sf W w b F (newX (n : Int)) os v l) (hn : n ≤ 100) : Calls Try.prog 14 #[.pointer (some ⟨b, 0, none⟩), .string (strOfNums (streamRow 100 100))] w fun e w' => e = .returned (.int .i64 n) ∧ ∃ F', Sf W w' b F' (flX n 100 0) os v l :=
  (sf_write h (strOfNums (streamRow 100 100)) (by rw [strOfNums_size, streamRow_length]; decide) (by rw [start_writeN]; simp [newX]; omega)).mono (fun e w' hh => by
    rw [start_eq, start_writeN, show min 100 n = n by omega] at hh; exact hh)
theorem sp_space0 (h : Sf W w b F (flX n 100 0) os v l) (hn : n ≤ 100) : Calls Try.prog 19 #[.pointer (some ⟨b, 0, none⟩)] w fun e w' => e = .returned (.int .i64 0) ∧ ∃ F', Sf W w' b F' (flX n 100 0) os v l :=
  (sf_space h).mono (fun e w' hh => by
    obtain ⟨he, m, rfl⟩ := hh
    rw [fl_space, show ((n : Int) - (min 100 n : Nat)) = 0 by omega] at he
    exact ⟨he, F, h.drewN m⟩)
theorem sp_more (h : Sf W w b F (flX n 100 0) os v l) (hn : n ≤ 100) : Calls Try.prog 14 #[.pointer (some ⟨b, 0, none⟩), .string ⟨#[120]⟩] w fun e w' => e = .returned (.int .i64 0) ∧ ∃ F', Sf W w' b F' (flX n 100 0) os v l := by
  have e0 : (flX n 100 0).writeN ⟨#[120]⟩ = 0 := by unfold Wh.writeN; rw [fl_space]; omega
  refine (sf_write h ⟨#[120]⟩ (by decide) (by rw [e0, fl_S]; omega)).mono (fun e w' hh => ?_)
  have e1 : (flX n 100 0).write ⟨#[120]⟩ = flX n 100 0 := by unfold Wh.write; rw [e0]; simp
  rw [e0, e1] at hh
  exact hh
theorem sp_acked (h : Sf W w b F X os v l) (hX : SpX n D X) (hn : n ≤ 100) : Calls Try.prog 18 #[.pointer (some ⟨b, 0, none⟩), (spF n step i).val] w fun e w' => e = .returned (.int .i64 0) ∧ ∃ F' X', SpX n (fun j => D j || spD n step i j) X' ∧ Sf W w' b F' X' os v l :=
  (sf_acked h (spF n step i)).mono (fun e w' hh => by
    rw [spX_err hX hn] at hh
    exact ⟨hh.1, hh.2.choose, _, spX_acked hX hn, hh.2.choose_spec⟩)
theorem sp_space (h : Sf W w b F X os v l) (hX : SpX n D X) (hn : n ≤ 100) : Calls Try.prog 19 #[.pointer (some ⟨b, 0, none⟩)] w fun e w' => e = .returned (.int .i64 X.u) ∧ ∃ F', Sf W w' b F' X os v l :=
  (sf_space h).mono (fun e w' hh => by
    obtain ⟨he, m, rfl⟩ := hh
    rw [spX_space hX hn] at he
    exact ⟨he, F, h.drewN m⟩)
theorem sp_acked' {f : Fr} (hf : Hid (spF n step i = f)) (h : Sf W w b F X os v l) (hX : Hid (SpX n D X)) (hn : n ≤ 100) : Calls Try.prog 18 #[.pointer (some ⟨b, 0, none⟩), f.val] w fun e w' => e = .returned (.int .i64 0) ∧ ∃ F' X', Hid (SpX n (fun j => D j || spD n step i j) X') ∧ Hid (Sf W w' b F' X' os v l) := by
  rw [← hf.out]
  exact (sp_acked h hX.out hn).mono fun e w' hh => ⟨hh.1, hh.2.choose, hh.2.choose_spec.choose, Lib.hid hh.2.choose_spec.choose_spec.1, Lib.hid hh.2.choose_spec.choose_spec.2⟩
theorem Sf.at {g m cap k : Nat} {f : Fr} (h : Sf W w b F X os (.slice (some ⟨g, 0, none⟩) m cap) l) (hk : l[k]? = some f) : w.rangeAt g (k * 13) f.cells.toList := by
  obtain ⟨g', cap', e, _, hr⟩ := h.elem hk
  simp only [Value.slice.injEq, Option.some.injEq, Addr.mk.injEq] at e
  obtain ⟨⟨rfl, _, _⟩, _, _⟩ := e
  exact hr
theorem sp_u1 (h : SpX n (fun x => false || spD n step 0 x) X) : X.u = spO n step 1 := by
  refine spX_u h spO_le (fun x hx => ?_) (fun hx => ?_)
  · simp [spD, spO_zero, hx]
  · simp [spD]
theorem sp_u0 {m : Nat} (h : SpX n (fun x => false || spD n step m x) X) (hm : 0 < m) (h1 : 1 ≤ step) (hn : 1 ≤ n) : X.u = 0 := by
  refine spX_u h (Nat.zero_le _) (fun x hx => absurd hx (Nat.not_lt_zero x)) (fun hx => ?_)
  have : 1 * 1 ≤ m * step := Nat.mul_le_mul hm h1
  have : 1 ≤ spO n step m := by unfold spO; omega
  simp [spD]; omega
theorem sp_get {j m : Nat} (h : m < j) : ((List.range j).map (spF n step))[m]? = some (spF n step m) := by simp [h]
theorem sp_sent (h : Sf W w b F X os v l) (hX : SpX n D X) : Calls Try.prog 21 #[.pointer (some ⟨b, 0, none⟩)] w fun e w' => e = .returned (.int .i64 n) ∧ w = w' := by
  have := sf_sent h
  rw [spX_sent hX] at this; exact this
end
theorem spOne (n step i : Nat) : (spF n step i).cells.all (·.oneCell') = true := one35 _ _ _ _
end Go.Proofs.Ytmjekepiplibkaa
namespace Go.Proofs.Ytmjekepiplibkaa.sendBufSpace
open Go.RowKit Go.WideShapes Go.ChangeShapes
set_option maxRecDepth 100000 in
set_option maxHeartbeats 8000000 in
theorem walk (limit size which : Int) (w : World) (hl : -9223372036854775808 ≤ limit ∧ limit ≤ 9223372036854775807) (hs : -9223372036854775808 ≤ size ∧ size ≤ 9223372036854775807) (hw : -9223372036854775808 ≤ which ∧ which ≤ 9223372036854775807) :
    Calls Try.prog 6 #[.int .i64 limit, .int .i64 size, .int .i64 which] w fun e w' => e = .returned (.bool true) ∧ Below w.heap.size w w' := by
  have PL := Lib.hid (fun (wx : World) => pick_any limit 60 wx hl.1 hl.2 (by decide) (by decide))
  have PZ := Lib.hid (fun (wx : World) => pick_any size 10 wx hs.1 hs.2 (by decide) (by decide))
  have PW := Lib.hid (fun (wx : World) (j : Nat) (hj : 1 ≤ j ∧ j ≤ 100) => pick_any which j wx hw.1 hw.2 (by omega) (by omega))
  have RW := Lib.hid (fun (j : Nat) (hj : 1 ≤ j ∧ j ≤ 100) => pickF_range which j (by omega))
  have r1 := pickF_range limit 60 (by decide)
  have r2 := pickF_range size 10 (by decide)
  generalize pickF limit 60 = p at *
  generalize pickF size 10 = q at *
  obtain ⟨k, rfl⟩ : ∃ k : Nat, p = k := ⟨p.toNat, by omega⟩
  obtain ⟨z, rfl⟩ : ∃ z : Nat, q = z := ⟨q.toNat, by omega⟩
  have hk : k < 60 := by omega
  have hz : z < 10 := by omega
  clear r1 r2 hl hs hw
  have hmin : (if (100 : Int) < 2 + (k : Int) then (100 : Int) else 2 + (k : Int)) = 2 + (k : Int) := if_neg (by omega)
  have T1 : Hid (1 = 1) := Lib.hid rfl
  have T2 : Hid (1 = 1) := Lib.hid rfl
  go_enter Try.func6, Try.ntmps6
  go_wp2_with (first
    | (go_at_call 9; refine (sane_any _).mono ?_; rintro e w1 ⟨rfl, HB2⟩; have HB := Lib.hid HB2; clear HB2)
    | (go_at_call 11; have T0 := T1.out; clear T0 T1; refine (PL.out _).mono ?_; rintro e wm ⟨rfl, rfl⟩)
    | (go_at_call 12; refine (sp_new k hk HB.out).mono ?_; rintro e wn ⟨rfl, H2⟩; have H := Lib.hid H2; clear H2)
    | (go_at_call 10; refine (stream100 _).mono ?_; rintro e wk ⟨rfl, HK⟩; have H2 := H.out.same HK; clear H HK; have H := Lib.hid H2; clear H2)
    | (go_at_call 14; have T0 := T2.out; clear T0 T2; refine (sp_write H.out (by omega)).mono ?_; rintro e wk ⟨rfl, F2, H2⟩; clear H; have H := Lib.hid H2; clear H2)
    | (go_at_call 19; refine (sp_space0 H.out (by omega)).mono ?_; rintro e ws ⟨rfl, F2, H2⟩; clear H; have H := Lib.hid H2; clear H2)
    | (go_at_call 14; refine (sp_more H.out (by omega)).mono ?_; rintro e wk ⟨rfl, F2, H2⟩; clear H; have H := Lib.hid H2; clear H2)
    | (go_at_call 11; refine (PZ.out _).mono ?_; rintro e wm ⟨rfl, rfl⟩))
  clear PL hmin
  obtain ⟨n, hn⟩ : ∃ n, k + 2 = n := ⟨_, rfl⟩
  rw [hn] at H
  have hnI : 2 + (k : Int) = (n : Int) := by omega
  rw [hnI]
  obtain ⟨st, hst⟩ : ∃ st, z + 1 = st := ⟨_, rfl⟩
  have hsI : 1 + (z : Int) = (st : Int) := by omega
  rw [hsI]
  have hn1 : 2 ≤ n := by omega
  have hn2 : n ≤ 61 := by omega
  have hs1 : 1 ≤ st := by omega
  have hs2 : st ≤ 10 := by omega
  clear hn hnI hst hsI hk hz PZ
  have H0 := H
  clear H
  go_loopw [11, 13] (fun v i wr => ∃ (j : Nat) (F : Nat → Prop), j ≤ n ∧ i = .int .i64 j ∧ Hid (Sf w wr w1.heap.size F (flX n 100 (spO n st j)) [] v ((List.range j).map (spF n st)))) (fun _ i _ => 70 - (intOf i).toNat)
  case atStart => exact ⟨0, _, Nat.zero_le _, rfl, Lib.hid (by rw [spO_zero]; exact H0.out)⟩
  case round =>
    obtain ⟨j, F, hj, rfl, H⟩ := hrel
    clear H0
    have hj70 : j < 70 := by omega
    obtain ⟨a, cap, rfl, hcap⟩ := H.out.form
    simp only [List.length_map, List.length_range] at H hcap ⊢
    by_cases hlt : spO n st j < n
    · have hjn : j + 1 ≤ n := by have : j * st < n := by (unfold spO at hlt; omega)
                                 have : j * 1 ≤ j * st := Nat.mul_le_mul_left j hs1
                                 omega
      obtain ⟨f, hf⟩ : ∃ f, spF n st j = f := ⟨_, rfl⟩
      have hnx := Lib.hid (sp_nextY H.out (by omega) hlt hs1 hs2)
      have O1 : Hid (f.cells.all (·.oneCell') = true) := Lib.hid (by rw [← hf]; exact spOne n st j)
      have HR : Hid ((List.range j).map (spF n st) ++ [f] = (List.range (j + 1)).map (spF n st)) := Lib.hid (by rw [List.range_succ, List.map_append, ← hf]; rfl)
      rw [hf] at hnx
      clear hf
      have HL : Hid (((List.range j).map (spF n st)).length ≤ 2000) := Lib.hid (by simp; omega)
      generalize (List.range j).map (spF n st) = l at *
      go_wp2_with (first
        | (go_at_call 16; refine hnx.out.mono ?_; rintro e wn ⟨V, HV, rfl, F2, H2⟩; clear H; have H := Lib.hid H2; clear H2)
        | (refine wpList_store_new rfl _ _ rfl f O1.out _ (by rfl) (by rfl) (by exact HV.out) ?_; have H2 := H.out.frame f; clear H HV; have H := Lib.hid H2; clear H2; generalize wn.alloc (.cells f.cells 35) = wq at H ⊢)
        | (refine wpList_load_own rfl _ rfl f wn.heap.size rfl (H.out.fr (by simp)) ?_)
        | (refine wpList_build_fr rfl _ rfl f rfl ?_; have H2 := H.out.frame f; clear H; have H := Lib.hid H2; clear H2; have HG := Lib.hid (heap_alloc_new wq (.cells f.cells 35)); generalize wq.alloc (.cells f.cells 35) = wb at H HG ⊢)
        | (refine wpList_append_fr rfl _ _ rfl H.out rfl f O1.out wq.heap.size rfl HG.out HL.out ?_; intro v2 w2 H2; clear H; have H := Lib.hid H2; clear H2))
      go_roundw
      case rel => exact ⟨j + 1, F2, hjn, by simp, Lib.hid (by rw [← HR.out]; exact H.out.sub (by simp))⟩
      case measure => simp [intOf]; omega
    · have hj0 : spO n st j = n := by have := @spO_le n st j; omega
      have hj1 : 1 ≤ j := by
        rcases Nat.eq_zero_or_pos j with h | h
        · subst h; rw [spO_zero] at hj0; omega
        · exact h
      clear hlt
      have PK := Lib.hid (fun wx => PW.out wx j ⟨hj1, by omega⟩)
      have rk := RW.out j ⟨hj1, by omega⟩
      generalize pickF which (j : Int) = pk at PK rk
      obtain ⟨m, rfl⟩ : ∃ m : Nat, pk = m := ⟨pk.toNat, by omega⟩
      have hm : m < j := by omega
      clear rk
      obtain ⟨g, hg⟩ : ∃ g, a = some ⟨g, 0, none⟩ := by
        obtain ⟨g', cap', e, _, _⟩ := H.out.elem (sp_get hm)
        simp only [Value.slice.injEq] at e
        exact ⟨g', e.1⟩
      subst hg
      obtain ⟨fk, hfk⟩ : ∃ fk, spF n st m = fk := ⟨_, rfl⟩
      have HK : Hid (((List.range j).map (spF n st))[m]? = some fk) := Lib.hid (by rw [← hfk]; exact sp_get hm)
      have HFK := Lib.hid hfk
      clear hfk
      have HN := Lib.hid (sp_nextN H.out (by omega) hj0 hs1)
      have SX : Hid (SpX n (fun _ => false) (flX n 100 n)) := Lib.hid (spX_start (by omega))
      have HJ0 := Lib.hid hj0
      have HG0 := Lib.hid (fun (i : Nat) (hi : i < j) => @sp_get n st j i hi)
      have OZ : Hid (fr0.cells.all (·.oneCell') = true) := Lib.hid (one35 _ _ _ _)
      clear hj0
      generalize (List.range j).map (spF n st) = l at *
      go_wp2_with (first
        | (go_at_call 16; refine HN.out.mono ?_; rintro e wn ⟨V, HV, rfl, F2, H2⟩; clear H HN; have H := Lib.hid H2; clear H2)
        | (refine wpList_store_new rfl _ _ rfl fr0 OZ.out _ (by rfl) (by rfl) (by exact HV.out) ?_; have H2 := (H.out.frame fr0).sub (os' := []) (by simp); clear H HV; have H := Lib.hid H2; clear H2; generalize wn.alloc (.cells fr0.cells 35) = wq at H ⊢)
        | (go_at_call 11; refine (PK.out _).mono ?_; rintro e wm ⟨rfl, rfl⟩)
        | (refine wpList_load_fr rfl _ rfl fk g (m * 13) (by rfl) (H.out.at HK.out) ?_)
        | (go_at_call 18; refine (sp_acked' HFK H.out SX (by omega)).mono ?_; rintro e wa ⟨rfl, F3, X3, SX2, H2⟩; clear H SX; have H := H2; have SX := SX2; clear H2 SX2)
        | (go_at_call 19; refine (sp_space H.out SX.out (by omega)).mono ?_; rintro e ws ⟨rfl, F4, H2⟩; clear H; have H := Lib.hid H2; clear H2))
      have HU : Hid ((m = 0 → X3.u = spO n st 1) ∧ (0 < m → X3.u = 0)) := Lib.hid ⟨fun h => by subst h; exact sp_u1 SX.out, fun h => sp_u0 SX.out h hs1 (by omega)⟩
      generalize X3.u = U at HU ⊢
      have HS0 := H
      have SX0 := SX
      clear H SX PK HK HFK
      go_loopw [19] (fun i wr => ∃ (q : Nat) (D : Nat → Bool) (X : Wh) (F : Nat → Prop), q ≤ j ∧ i = .int .i64 q ∧ Hid (SpX n D X) ∧ Hid (∀ x, x < spO n st q → D x = true) ∧ Hid (Sf w wr w1.heap.size F X [] (.slice (some ⟨g, 0, none⟩) j cap) l)) (fun i _ => j - (intOf i).toNat)
      case atStart => exact ⟨0, _, X3, _, Nat.zero_le _, rfl, SX0, Lib.hid (fun x hx => by rw [spO_zero] at hx; omega), HS0⟩
      case round =>
        obtain ⟨q, D, X, F, hq, rfl, SX, HD, H⟩ := hrel
        clear HS0 SX0
        by_cases hlt : q < j
        · obtain ⟨f, hf⟩ : ∃ f, spF n st q = f := ⟨_, rfl⟩
          have HK : Hid (l[q]? = some f) := Lib.hid (by rw [← hf]; exact HG0.out q hlt)
          have HF := Lib.hid hf
          clear hf
          go_wp2_with (first
            | (refine wpList_load_fr rfl _ rfl f g (q * 13) (by rfl) (H.out.at HK.out) ?_)
            | (go_at_call 18; refine (sp_acked' HF H.out SX (by omega)).mono ?_; rintro e wa ⟨rfl, F3, X4, SX2, H2⟩))
          go_roundw
          case rel => exact ⟨q + 1, _, X4, F3, hlt, by simp, SX2, Lib.hid (fun x hx => by
            by_cases e : x < spO n st q
            · simp [HD.out x e]
            · simp [spD, hx]; exact .inr (by omega)), H2⟩
          case measure => simp [intOf]; omega
        · obtain rfl : q = j := by omega
          have hu : X.u = n := spX_u SX.out (Nat.le_refl _) (fun x hx => HD.out x (by rw [HJ0.out]; exact hx)) (fun h => absurd h (Nat.lt_irrefl _))
          have SPC := Lib.hid (sp_space H.out SX.out (by omega))
          rw [hu] at SPC
          clear hu
          have T1 : Hid (1 = 1) := Lib.hid rfl
          by_cases hm0 : m = 0
          · subst hm0
            have hU := HU.out.1 rfl
            have hS := @spF_size n st 0 (by omega)
            have hC : wr.cell? ⟨g, 3, none⟩ = some (.string (spF n st 0).s) := H.out.at (HG0.out 0 (by omega)) 3 _ rfl
            rw [spO_zero, ← hU] at hS
            have hS2 : (spF n st 0).s.size = U := by omega
            clear hS hU
            generalize (spF n st 0).s = s0 at hC hS2
            go_wp2_with (first
              | (go_at_call 19; refine SPC.out.mono ?_; rintro e ws ⟨rfl, F4, H2⟩; clear H; have H := Lib.hid H2; clear H2)
              | (go_at_call 21; refine (sp_sent H.out SX.out).mono ?_; rintro e ws ⟨rfl, rfl⟩))
            go_ret
            exact ⟨rfl, H.out.below⟩
          · have hU := HU.out.2 (by omega)
            have hmz : ((m : Int) == 0) = false := by simp; omega
            subst hU
            go_wp2_with (first
              | (go_at_call 19; refine SPC.out.mono ?_; rintro e ws ⟨rfl, F4, H2⟩; clear H; have H := Lib.hid H2; clear H2)
              | (go_at_call 21; refine (sp_sent H.out SX.out).mono ?_; rintro e ws ⟨rfl, rfl⟩))
            go_ret
            exact ⟨rfl, H.out.below⟩
theorem main {H : Type} {enc : TypeId × Value → H} (W : World) (base0 : Nat) (v0 : Value) (d0 : DataW H) (p0 : List MemPlace) (hv0 : Value.okWide Try.prog W .any base0 3 v0) (h0 : DataW.Trod enc Try.prog W 0 (fun _ => true) true 3 v0 d0 p0)
    (base1 : Nat) (v1 : Value) (d1 : DataW H) (p1 : List MemPlace) (hv1 : Value.okWide Try.prog W .any base1 3 v1) (h1 : DataW.Trod enc Try.prog W 0 (fun _ => true) true 3 v1 d1 p1)
    (base2 : Nat) (v2 : Value) (d2 : DataW H) (p2 : List MemPlace) (hv2 : Value.okWide Try.prog W .any base2 3 v2) (h2 : DataW.Trod enc Try.prog W 0 (fun _ => true) true 3 v2 d2 p2) :
    Calls Try.prog 6 #[v0, v1, v2] W fun e w' => e = .returned (.bool true) ∧ Below W.heap.size W w' := by
  obtain ⟨a0, rfl, _, _, w0⟩ := open_int Try.underlying3 hv0 h0
  obtain ⟨a1, rfl, _, _, w1⟩ := open_int Try.underlying3 hv1 h1
  obtain ⟨a2, rfl, _, _, w2⟩ := open_int Try.underlying3 hv2 h2
  exact walk a0 a1 a2 W (bounds_i64 w0) (bounds_i64 w1) (bounds_i64 w2)
end Go.Proofs.Ytmjekepiplibkaa.sendBufSpace
