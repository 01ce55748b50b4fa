/- Law 25: mac's chain: one block. -/
import Derived.Test.YtieiplalnekmkaaM
import Derived.Deep.WholeRow
import Derived.Lib.BufferWrite
namespace Go.Proofs.Ytieiplalnekmkaa
open Go.RowKit
/-- bytes as cells -/
def u8s (l : List Int) : Array Value := (l.map (Value.int .u8)).toArray
theorem u8s_size (l : List Int) : (u8s l).size = l.length := by simp [u8s]
theorem u8s_one (l : List Int) : (u8s l).all Value.oneCell' = true := by
  simp [u8s, Value.oneCell']
theorem u8s_at (l : List Int) (j : Nat) (h : j < l.length) : (u8s l)[j]? = some (.int .u8 (l.getD j 0)) := by
  simp [u8s, List.getElem?_map, List.getElem?_eq_getElem h, List.getD]
theorem getD_in (l : List Int) (j : Nat) (h : j < l.length) : l.getD j 0 = l[j] := by rw [List.getD_eq_getElem?_getD, List.getElem?_eq_getElem h]; rfl
def xor8 (a b : Int) : Int := bits .xor .u8 a b
def xz (c b : List Int) (j : Nat) : List Int := (List.zipWith xor8 c b).take j ++ c.drop j
theorem xz_len (c b : List Int) (j : Nat) (hc : c.length = 8) (hb : b.length = 8) (hj : j ≤ 8) : (xz c b j).length = 8 := by
  simp [xz, hc, hb]; omega
theorem xz_at (c b : List Int) (j : Nat) (hc : c.length = 8) (hb : b.length = 8) (hj : j < 8) : (xz c b j).getD j 0 = c.getD j 0 := by
  have h1 : ((List.zipWith xor8 c b).take j).length = j := by simp [hc, hb]; omega
  rw [xz, List.getD_eq_getElem?_getD, List.getElem?_append_right (by omega), h1, Nat.sub_self, List.getElem?_drop, Nat.add_zero, List.getD_eq_getElem?_getD]
theorem xz_succ (c b : List Int) (j : Nat) (hc : c.length = 8) (hb : b.length = 8) (hj : j < 8) :
    (u8s (xz c b j)).setIfInBounds j (.int .u8 (xor8 (c.getD j 0) (b.getD j 0))) = u8s (xz c b (j + 1)) := by
  have hz : (List.zipWith xor8 c b).length = 8 := by simp [hc, hb]
  have h1 : ((List.zipWith xor8 c b).take j).length = j := by simp [hc, hb]; omega
  have hd : c.drop j = c.getD j 0 :: c.drop (j + 1) := by
    rw [List.drop_eq_getElem_cons (by omega), getD_in c j (by omega)]
  have ht : (List.zipWith xor8 c b).take (j + 1) = (List.zipWith xor8 c b).take j ++ [xor8 (c.getD j 0) (b.getD j 0)] := by
    rw [List.take_succ_eq_append_getElem (by omega), List.getElem_zipWith, getD_in c j (by omega), getD_in b j (by omega)]
  unfold xz u8s
  rw [ht, hd]
  simp only [List.map_append, List.map_cons, List.setIfInBounds_toArray, List.append_assoc, List.cons_append, List.nil_append]
  rw [List.set_append_right _ _ (by simp [hc, hb]; omega)]
  simp only [List.length_map, h1, Nat.sub_self, List.set_cons_zero]
theorem xz_zero (c b : List Int) : xz c b 0 = c := by simp [xz]
theorem xz_full (c b : List Int) (hc : c.length = 8) (hb : b.length = 8) : xz c b 8 = List.zipWith xor8 c b := by
  unfold xz; rw [List.drop_eq_nil_of_le (by omega), List.append_nil, List.take_of_length_le (by simp [hc, hb])]
/-- the chain behind a block -/
def stepF (key : ByteArray) (c b : List Int) : List Int := bytesOf (encF key (strOfNums (List.zipWith xor8 c b)))
theorem stepF_len (key : ByteArray) (c b : List Int) : (stepF key c b).length = 8 := by unfold stepF; rw [bytesOf_length, encF_size]
theorem grown_row {a w : World} {b : Nat} (h : a.grownBy w (some b)) (cs : Array Value) : a.grownBy (w.setRow b cs) (some b) :=
  ⟨h.os, h.tape, h.output, by simpa using h.size, fun k hk hr => (setRow_other w b k cs (fun e => hr (by rw [e]))).trans (h.block k hk hr)⟩
theorem grown_row_new {a w : World} {r : Option Nat} {b : Nat} (h : a.grownBy w r) (hb : a.heap.size ≤ b) (cs : Array Value) : a.grownBy (w.setRow b cs) r :=
  ⟨h.os, h.tape, h.output, by simpa using h.size, fun k hk hr => (setRow_other w b k cs (by omega)).trans (h.block k hk hr)⟩
theorem size5 : (Try.prog.info? 5).map (·.size) = some 1 := by kernel_rfl
theorem u8s_len8 (X : List Int) (h : X.length = 8) : (u8s X).size = 8 := (u8s_size X).trans h
theorem copy8 (w : World) (C : Nat) (s : ByteArray) {cur : Array Value} (hC : w.heap[C]? = some (.cells cur 90 (0, 0))) (hn : cur.size = 8) (hs : s.size = 8) :
    (Builtin.copy_ #[77, 9] 3 #[.slice (some ⟨C, 0, none⟩) 8 8, .string s]).run Try.prog w = .ok (.int .i64 8) (w.setRow C (u8s (bytesOf s))) := by
  have h := Lib.run_copy_row_string (P := Try.prog) w 77 9 3 5 C 0 8 8 s cur 90 Try.underlying77 size5 hC (by omega) (by omega)
  rw [hs] at h
  refine h.trans ?_
  have e : (List.take 0 cur.toList ++ Lib.byteCells s.data.toList ++ List.drop (0 + 8) cur.toList).toArray = u8s (bytesOf s) := by
    rw [List.drop_eq_nil_of_le (by simp [hn])]
    simp [u8s, bytesOf, Lib.byteCells]
  rw [e]
  rfl
theorem size90 : (Try.prog.info? 90).map (·.size) = some 8 := by kernel_rfl
set_option maxRecDepth 100000 in
set_option maxHeartbeats 4000000 in
theorem chain_any (key : ByteArray) (c b : List Int) (C K : Nat) (w : World) (hk : key.size = 16) (hc : c.length = 8) (hb : b.length = 8)
    (hC : w.heap[C]? = some (.cells (u8s c) 90 (0, 0))) (hK : w.cell? ⟨K, 0, none⟩ = some (.string key)) (hne : C ≠ K) :
    Calls Try.prog 39 #[.agg (u8s b), .pointer (some ⟨C, 0, none⟩), .pointer (some ⟨K, 0, none⟩)] w fun e w' => e = .returned (.agg (u8s (stepF key c b))) ∧ Blk C (u8s (stepF key c b)) 90 w w' := by
  have HC := Lib.hid (And.intro hc hb)
  have hXl : (List.zipWith xor8 c b).length = 8 := by simp [hc, hb]
  have hfull := xz_full c b hc hb
  unfold stepF
  have HEN := Lib.hid (fun w => enc_any key (strOfNums (List.zipWith xor8 c b)) w hk (by unfold strOfNums; simp [ByteArray.size, hc, hb]))
  have F := Lib.hid (box2 w (.cells (u8s b) 90) (.cells #[.int .u8 0, .int .u8 0, .int .u8 0, .int .u8 0, .int .u8 0, .int .u8 0, .int .u8 0, .int .u8 0] 90))
  have hKl : K < w.heap.size := World.block_lt_of_cell? _ _ hK
  have hCl := heap_lt hC
  have HH := Lib.hid (And.intro hC hK)
  have nC0 : C ≠ w.heap.size := by omega
  have nC1 : C ≠ w.heap.size + 1 := by omega
  have nK0 : K ≠ w.heap.size := by omega
  generalize List.zipWith xor8 c b = X at *
  have HX := Lib.hid (And.intro hXl hfull)
  clear hc hb hk hC hK hXl hfull
  go_enter Try.func39, Try.ntmps39
  go_wp2
  generalize (w.alloc (Obj.cells (u8s b) 90)).alloc (Obj.cells #[.int .u8 0, .int .u8 0, .int .u8 0, .int .u8 0, .int .u8 0, .int .u8 0, .int .u8 0, .int .u8 0] 90) = V at F ⊢
  go_loopw [8] (fun i wr => ∃ j : Nat, j ≤ 8 ∧ i = .int .i64 j ∧ wr.heap[w.heap.size]? = some (.cells (u8s b) 90) ∧ wr.heap[w.heap.size + 1]? = some (.cells #[.int .u8 0, .int .u8 0, .int .u8 0, .int .u8 0, .int .u8 0, .int .u8 0, .int .u8 0, .int .u8 0] 90) ∧ Blk C (u8s (xz c b j)) 90 w wr) (fun i _ => 8 - (intOf i).toNat)
  case atStart => exact ⟨0, by decide, rfl, F.out.1, F.out.2.1, by rw [xz_zero]; exact (Blk.start HH.out.1).below F.out.2.2.1⟩
  case round =>
    obtain ⟨j, hj, rfl, h0, h1, hB⟩ := hrel
    by_cases hlt : j < 8
    · have c0 := at_whole hB.1 j (u8s_at _ j (by rw [xz_len _ _ _ HC.out.1 HC.out.2 hj]; exact hlt))
      rw [xz_at _ _ _ HC.out.1 HC.out.2 hlt] at c0
      have b0 := at_whole h0 j (u8s_at _ j (by rw [HC.out.2]; exact hlt))
      have f0 := frozen_whole hB.1 j
      have HS := Lib.hid (xz_succ c b j HC.out.1 HC.out.2 hlt)
      have G := Lib.hid (And.intro h0 (And.intro h1 hB))
      have g0 : (0 : Int) ≤ (j : Int) := by omega
      have g1 : (j : Int) < 8 := by omega
      generalize c.getD j 0 = x at *
      generalize b.getD j 0 = y at *
      clear h0 h1 hB
      go_wp2
      go_still_tail 8, (by kernel_rfl)
      go_wp2
      go_roundw
      case rel => exact ⟨j + 1, by omega, by go_num, set_other nC0 G.out.1, set_other nC1 G.out.2.1, (G.out.2.2.drew.set j _).cast HS.out⟩
      case measure => simp [intOf]; omega
    · obtain rfl : j = 8 := by omega
      rw [HX.out.2] at hB
      have hX := HX.out.1
      clear hlt hj
      have hcv := run_convert_bytes_arg (P := Try.prog) wr.drew 77 5 Try.underlying77 Try.underlying5 C 0 8 8 X hX (fun i hi => by rw [Nat.zero_add]; exact at_whole hB.1 i (u8s_at X i (by omega))) 9 Try.underlying9
      have hkk : wr.cell? ⟨K, 0, none⟩ = some (.string key) := (World.cell?_of_block (a := ⟨K, 0, none⟩) (hB.2.block K hKl (fun e => hne (by cases e; rfl)))).trans HH.out.2
      have G := Lib.hid (And.intro h0 (And.intro h1 hB))
      clear h0 h1 hB hX
      go_wp2
      go_region_with ((go_at_call 40; refine (HEN.out _).mono ?_; rintro e w2 ⟨rfl, hb2⟩))
      all_goals
        have e0 := heap_below hb2 (show wr.drew.heap[C]? = some (.cells (u8s X) 90 (0, 0)) from G.out.2.2.1)
        have hcp := copy8 w2 C (encF key (strOfNums X)) e0 (u8s_len8 X HX.out.1) (encF_size _ _)
        have G2 : Hid (w2.heap[w.heap.size + 1]? = some (.cells #[.int .u8 0, .int .u8 0, .int .u8 0, .int .u8 0, .int .u8 0, .int .u8 0, .int .u8 0, .int .u8 0] 90 (0, 0)) ∧ Blk C (u8s X) 90 w w2) :=
          Lib.hid ⟨heap_below hb2 G.out.2.1, (G.out.2.2.drew).below hb2⟩
        have hE := bytesOf_length (encF key (strOfNums X))
        rw [encF_size] at hE
        have HE := Lib.hid hE
        have SZ : Hid ((Try.prog.info? 90).map (·.size) = some (u8s (bytesOf (encF key (strOfNums X)))).size ∧ (8 : Nat) = (u8s (bytesOf (encF key (strOfNums X)))).size) := Lib.hid ⟨by rw [u8s_len8 _ hE]; exact size90, (u8s_len8 _ hE).symm⟩
        have LR : Hid ((w2.setRow C (u8s (bytesOf (encF key (strOfNums X))))).heap[C]? = some (.cells (u8s (bytesOf (encF key (strOfNums X)))) 90 (0, 0)) ∧ (w2.setRow C (u8s (bytesOf (encF key (strOfNums X))))).heap[w.heap.size + 1]? = some (.cells #[.int .u8 0, .int .u8 0, .int .u8 0, .int .u8 0, .int .u8 0, .int .u8 0, .int .u8 0, .int .u8 0] 90 (0, 0))) :=
          Lib.hid ⟨setRow_heap _ _ _ _ _ _ e0, (setRow_other _ _ _ _ (fun e => nC1 e.symm)).trans G2.out.1⟩
        clear hb2 e0 hE hcv hkk
        go_wp2_with (first | (refine wpList_load_row rfl 90 _ rfl C rfl 90 _ (0, 0) _ LR.out.1 Try.underlying90 rfl SZ.out.1 ?_) | (refine wpList_store_row rfl 90 _ _ rfl (w.heap.size + 1) _ rfl rfl 90 _ LR.out.2 SZ.out.1 SZ.out.2 (u8s_one _) ?_))
        refine bodyPost_ret (v := .agg (u8s (bytesOf (encF key (strOfNums X))))) (results_cell_row rfl _ _ (w.heap.size + 1) 90 _ (0, 0) _ rfl (setRow_heap _ _ _ _ _ _ LR.out.2) Try.underlying90 rfl SZ.out.1) rfl ⟨rfl, ?_, ?_⟩
        · exact (setRow_other _ _ _ _ nC1).trans LR.out.1
        · exact grown_row_new (grown_row G2.out.2.2 _) (by omega) _
end Go.Proofs.Ytieiplalnekmkaa
