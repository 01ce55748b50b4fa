/- Law 13: the iterator over the outstanding packets. -/
import Derived.Test.YtafkndhnbnpahaaGreatT
namespace Go.Proofs.YtafkndhnbnpahaaGreat
open Go.RowKit Go.Maps Go.Sort Go.Shelf
attribute [local go_sem] Oper.semAt_some
def encP (p : Pk) : Array Value := #[p.val]
/-- rows and boxes of ints stay -/
def Ints (W W' : World) : Prop := ∀ (k : Nat) (cs : Array Value) (fz : Nat × Nat), W.heap[k]? = some (.cells cs 3 fz) → W'.heap[k]? = some (.cells cs 3 fz)
def KpI (n₀ : Nat) (W W' : World) : Prop := Below n₀ W W' ∧ Ints W W'
theorem Ints.trans {a b c : World} (h : Ints a b) (k : Ints b c) : Ints a c := fun _ _ _ hh => k _ _ _ (h _ _ _ hh)
theorem Ints.below {a b : World} (h : Below a.heap.size a b) : Ints a b := fun _ _ _ hh => heap_below h hh
theorem KpI.trans {n₀ : Nat} {a b c : World} (h : KpI n₀ a b) (k : KpI n₀ b c) : KpI n₀ a c := ⟨h.1.trans k.1, h.2.trans k.2⟩
theorem sortsL (m : Nat) : AnyZI.SortsIn Tryz.prog Tryz.sortedL_ren Fence.wide m :=
  ⟨fun blk off cap ss W hH hblk hsz => callsIn_wide.2 (Tryz.slices_Sort_int blk off cap ss W hH hblk hsz),
   fun p cap W => callsIn_wide.2 (Tryz.slices_Sort_int_none p cap W)⟩
set_option maxRecDepth 100000 in
set_option maxHeartbeats 4000000 in
theorem all_in (n : Nat) (hn : 6 ≤ n) (ly B b M nn n₀ : Nat) (l : List Pk) (nx : Int) (hu : Up nx l) (hnx : nx ≤ 281474976710656) (hll : l.length ≤ 1000000) (J Jx : List Pk → World → Prop) {m : Nat} (hJA : AbidesFrom m J)
    (hY : ∀ pre x W, x ∈ l → J pre W → pre.length < l.length → YieldAt Fence.wide (n - 1) Tryz.prog ly (encP x) W fun e W' =>
      (e = .returned (.bool true) ∧ J (pre ++ [x]) W' ∧ KpI n₀ W W') ∨ (e = .returned (.bool false) ∧ Jx (pre ++ [x]) W'))
    (W : World) (hWn : n₀ ≤ W.heap.size) (hBl : B < n₀) (hbl : b < n₀) (hMl : M < n₀)
    (hB : W.cell? ⟨B, 0, none⟩ = some (.pointer (some ⟨b, 0, none⟩))) (hb : W.cell? ⟨b, 0, none⟩ = some (.map (some M))) (hM : MapPk W M nn l) (h0 : J [] W) :
    CallsIn Fence.wide n Tryz.prog 67 #[.func (.yield ly) #[] #[], .pointer (some ⟨B, 0, none⟩)] W fun e W' => (∃ v, e = .returned v) ∧
      ((∃ ys, ys = l ∧ J ys W') ∨ (∃ pre, pre <+: l ∧ Jx pre W')) := by
  obtain ⟨D, hD, hH⟩ := hM
  have HD := Lib.hid (And.intro hD hH)
  have hsz : Maps.size D = l.length := by
    obtain ⟨es, rfl, ht⟩ := hH.tidy
    have := (keys_sorted hH hu (MapAt.keys hD) (List.Perm.refl _)).2
    simpa [Maps.size, intKeys] using this
  have hseq : SeqGives Fence.wide (n - 1 - 1 - 1 - 1) Tryz.prog 82 #[.pointer (some ⟨W.heap.size, 0, none⟩)] encZ (fun ss => ss.Perm (intKeys D)) (Maps.size D) (W.alloc (.cells #[.map (some M)] 73)) :=
    AnyZI.keys_gives (ρ := Tryz.keysL_ren) { Tryz.keysL with } Fence.wide _ trivial rfl (by omega) W.heap.size M nn D _ (by simp) (by simp) (World.ownsMap.alloc hD _)
  have cK : ∀ mb W, CallsIn Fence.wide (n - 1) Tryz.prog 69 #[.map mb] W fun e w' => e = .returned (.func (.func 82) #[] #[.pointer (some ⟨W.heap.size, 0, none⟩)]) ∧ w' = W.alloc (.cells #[.map mb] 73) := fun mb W => AnyZI.keys_in Tryz.keysL Fence.wide (n - 1) trivial rfl mb W
  have cS := AnyZI.sorted_in Tryz.sortedL Fence.wide (n - 1) trivial trivial trivial trivial rfl (by omega) (sortsL _) (enters_of Tryz.func81 (by kernel_rfl) rfl) 82 #[.pointer (some ⟨W.heap.size, 0, none⟩)] trivial (enters_of Tryz.func82 (by kernel_rfl) rfl) _ _ (by rw [hsz]; unfold maxLen; omega) (by rw [hsz]; omega) _ hseq
  change CallsIn _ _ Tryz.prog 68 _ _ _ at cS
  have CS := Lib.hid cS
  have CK := Lib.hid cK
  have HS := Lib.hid hsz
  clear cS cK hseq hsz hD hH
  have hfK : Fence.wide.fn 69 := trivial
  have hfS : Fence.wide.fn 68 := trivial
  have h1n : 1 ≤ n := by omega
  refine callsIn_of_wp Tryz.func67 rfl trivial ?_ rfl
  simp only [Tryz.ntmps67, List.size_toArray, List.length_cons, List.length_nil, Nat.reduceAdd, Nat.reduceSub, Array.replicate_succ, Array.replicate_zero, List.push_toArray, List.append_toArray, List.nil_append, List.cons_append]
  gi_wp2_with (gi_at_call 69; refine (CK.out _ _).mono ?_; rintro e w' ⟨rfl, rfl⟩)
  refine CS.out.mono ?_
  rintro e w1 ⟨v, ss, rfl, hS, hrow, hnil, hb1⟩
  clear hfK hfS hnil
  have hq := keys_sorted HD.out.2 hu (MapAt.keys HD.out.1) hS
  rw [hq.1, hq.2] at hrow
  have hb2 : Below W.heap.size W w1 := btrans ((Below.refl W.heap.size W).alloc (Nat.le_refl _) _) hb1
  have HBW := Lib.hid hb2
  have J1 := Lib.hid (hJA [] W w1 none h0 (grown_below (r := none) hb2) (fun r e => by cases e))
  clear hq hS hb1 hb2 h0 CS CK
  rcases hrow.2 with ⟨rfl, hz⟩ | ⟨g, cap, cur, rfl, hbase, hg, r1, r2, r3, r4⟩
  · have hl0 : l = [] := List.eq_nil_of_length_eq_zero hz
    subst hl0
    clear hrow
    gi_wp2
    refine wpIn_loop_rounds 1 ?_
    rw [roundsIn_succ]
    gi_wp2
    go_end0
    exact ⟨⟨_, rfl⟩, .inl ⟨[], rfl, J1.out⟩⟩
  · have hcl := Lib.hid (fun (k : Nat) (hk : k < l.length) => (show w1.cell? ⟨g, k, none⟩ = some (.int .i64 (l[k]'hk).pn) from by
      have := hrow.cells (g := g) rfl k (.int .i64 (l[k]'hk).pn) (by simp [encZ, hk])
      rwa [add_plain, Nat.zero_add] at this))
    have HG := Lib.hid hg
    have R1 := r1
    clear hrow hg r3 r4 hbase
    have hb0 : Below n₀ W w1 := HBW.out.mono hWn
    unfold maxLen at r2
    gi_wp2
    gi_loopw [14] (fun i wr => ∃ k : Nat, k ≤ l.length ∧ i = .int .i64 k ∧ J (l.take k) wr ∧ Below n₀ W wr ∧ Ints w1 wr) (fun i _ => l.length - (intOf i).toNat)
    case atStart => exact ⟨0, by omega, rfl, J1.out, hb0, fun _ _ _ h => h⟩
    case round =>
      obtain ⟨k, hk, rfl, hJ, hbk, hik⟩ := hrel
      have HI := Lib.hid (And.intro hbk hik)
      have cB : wr.cell? ⟨B, 0, none⟩ = some (.pointer (some ⟨b, 0, none⟩)) := (hbk.cell (p := ⟨B, 0, none⟩) hBl).trans hB
      have cb : wr.cell? ⟨b, 0, none⟩ = some (.map (some M)) := (hbk.cell (p := ⟨b, 0, none⟩) hbl).trans hb
      have hMk : MapPk wr M nn l := MapPk.of_block ⟨D, HD.out.1, HD.out.2⟩ (hbk.block M hMl)
      clear hbk hik
      by_cases hlt : k < l.length
      · have hgw : wr.heap[g]? = some (.cells cur 3 (0, 0)) := HI.out.2 _ _ _ HG.out
        have ck : wr.cell? ⟨g, k, none⟩ = some (.int .i64 (l[k]'hlt).pn) := (World.cell?_of_block (a := ⟨g, k, none⟩) (hgw.trans HG.out.symm)).trans (hcl.out k hlt)
        have hpm : l[k]'hlt ∈ l := List.getElem_mem hlt
        have hpb := hu.bnd _ hpm
        have hlook := hMk.look hpm (pnWf hpb.1 (by omega))
        have hts := Lib.hid (List.take_succ_eq_append_getElem hlt)
        obtain ⟨fn, tmps, assign, body, hy, hR⟩ := hY _ (l[k]'hlt) wr hpm hJ (by rw [List.length_take]; omega)
        have HR := Lib.hid hR
        clear hR hMk hgw hpm hJ
        simp only [encP, Pk.val, Pk.cells] at hy hlook
        gi_wp2
        refine HR.out.mono ?_
        rintro e W3 (⟨rfl, hJ3, hk3⟩ | ⟨rfl, hJx3⟩)
        · have K3 := Lib.hid hk3
          clear hk3 hpb hlook hy ck cB cb
          gi_wp2
          go_roundw
          case rel => exact ⟨k + 1, by omega, by go_num, by rw [hts.out]; exact hJ3, HI.out.1.trans K3.out.1, HI.out.2.trans K3.out.2⟩
          case measure => simp [intOf]; omega
        · clear hpb hlook hy ck cB cb
          gi_wp2
          refine bodyPost_ret (results_none rfl _ _ _) rfl ?_
          exact ⟨⟨_, rfl⟩, .inr ⟨_, by rw [← hts.out]; exact List.take_prefix _ _, hJx3⟩⟩
      · obtain rfl : k = l.length := by omega
        rw [List.take_length] at hJ
        clear hlt
        gi_wp2
        go_end0
        exact ⟨⟨_, rfl⟩, .inl ⟨l, rfl, hJ⟩⟩
/-- the packets of l, each known to be one of them -/
abbrev In (l : List Pk) := { p : Pk // p ∈ l }
theorem all_stops (n : Nat) (hn : 6 ≤ n) (B b M nn n₀ : Nat) (l : List Pk) (nx : Int) (hu : Up nx l) (hnx : nx ≤ 281474976710656) (hll : l.length ≤ 1000000) (W : World) (hn0 : n₀ ≤ W.heap.size) (hBl : B < n₀) (hbl : b < n₀) (hMl : M < n₀)
    (hB : W.cell? ⟨B, 0, none⟩ = some (.pointer (some ⟨b, 0, none⟩))) (hb : W.cell? ⟨b, 0, none⟩ = some (.map (some M))) (hM : MapPk W M nn l) :
    SeqStopsK Fence.wide n Tryz.prog 67 #[.pointer (some ⟨B, 0, none⟩)] (fun x : In l => encP x.1) (KpI n₀) (fun ys => ys.map (·.1) = l) (fun _ => True) l.length W := fun ly J Jx W2 hW hA _ hY h0 => by
  refine (all_in n hn ly B b M nn n₀ l nx hu hnx hll (fun pre W => ∃ pre' : List (In l), pre'.map (·.1) = pre ∧ J pre' W) (fun pre W => ∃ pre' : List (In l), pre'.map (·.1) = pre ∧ Jx pre' W) (m := W2.heap.size)
    (fun s A C row hs hg hr => by obtain ⟨p', e, hj⟩ := hs; exact ⟨p', e, hA p' A C row hj hg hr⟩) ?_ W2 (Nat.le_trans hn0 hW.size) hBl hbl hMl ((hW.cell (p := ⟨B, 0, none⟩) (Nat.lt_of_lt_of_le hBl hn0)).trans hB) ((hW.cell (p := ⟨b, 0, none⟩) (Nat.lt_of_lt_of_le hbl hn0)).trans hb)
    (hM.of_block (hW.block M (Nat.lt_of_lt_of_le hMl hn0))) ⟨[], rfl, h0⟩).mono ?_
  · rintro pre x W hx ⟨pre', rfl, hj⟩ hlen
    refine (hY pre' ⟨x, hx⟩ W hj (by simpa using hlen)).mono ?_
    rintro e W' (⟨h1, h2, h3⟩ | ⟨h1, h2⟩)
    · exact .inl ⟨h1, ⟨pre' ++ [⟨x, hx⟩], by simp, h2⟩, h3⟩
    · exact .inr ⟨h1, pre' ++ [⟨x, hx⟩], by simp, h2⟩
  · rintro e W' ⟨h1, h2⟩
    refine ⟨h1, ?_⟩
    rcases h2 with ⟨ys, rfl, ys', e, hj⟩ | ⟨pre, _, pre', _, hj⟩
    · exact .inl ⟨ys', e, hj⟩
    · exact .inr ⟨pre', trivial, hj⟩
set_option maxRecDepth 100000 in
set_option maxHeartbeats 2000000 in
/-- a nil Recovery yields nothing -/
theorem all_nil_stops (n : Nat) (_hn : 1 ≤ n) (B n₀ : Nat) (W : World) (hBl : B < n₀) (hn0 : n₀ ≤ W.heap.size) (hB : W.cell? ⟨B, 0, none⟩ = some (.pointer none)) :
    SeqStopsK Fence.wide n Tryz.prog 67 #[.pointer (some ⟨B, 0, none⟩)] (fun x : In [] => encP x.1) (KpI n₀) (fun ys => ys.map (·.1) = []) (fun _ => True) 0 W := by
  intro ly J Jx W2 hW hA _ hY h0
  have cB : W2.cell? ⟨B, 0, none⟩ = some (.pointer none) := (hW.cell (p := ⟨B, 0, none⟩) (Nat.lt_of_lt_of_le hBl hn0)).trans hB
  have HJ := Lib.hid h0
  clear hY h0 hA hW hB
  refine callsIn_of_wp Tryz.func67 rfl trivial ?_ rfl
  simp only [Tryz.ntmps67, List.size_toArray, List.length_cons, List.length_nil, Nat.reduceAdd, Nat.reduceSub, Array.replicate_succ, Array.replicate_zero, List.push_toArray, List.append_toArray, List.nil_append, List.cons_append]
  gi_wp2
  refine bodyPost_ret (results_none rfl _ _ _) rfl ?_
  exact ⟨⟨_, rfl⟩, .inl ⟨[], rfl, HJ.out⟩⟩
end Go.Proofs.YtafkndhnbnpahaaGreat
