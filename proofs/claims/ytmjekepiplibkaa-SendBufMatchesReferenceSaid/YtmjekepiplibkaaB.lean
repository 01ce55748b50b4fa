import Derived.Deep.RegionLaw
import Derived.Test.YtmjekepiplibkaaA
import Derived.Test.YtmjekepiplibkaaZeros
namespace Go.Proofs.Ytmjekepiplibkaa
open Go.RowKit
def bytesOf (s : ByteArray) : List Int := s.data.toList.map fun b => (b.toNat : Int)
theorem byteCells_of (s : ByteArray) : byteCells s = (bytesOf s).map (.int .u8) := by
  unfold byteCells bytesOf
  rw [List.map_map]
  rfl
theorem bytesOf_length (s : ByteArray) : (bytesOf s).length = s.size := by
  unfold bytesOf
  rw [List.length_map, Array.length_toList]
  rfl
theorem bytesOf_take (s : ByteArray) (n : Nat) : bytesOf (s.extract 0 n) = (bytesOf s).take n := by
  simp [bytesOf, ByteArray.data_extract, List.map_take]
def writeN (B : Bf) (s : ByteArray) : Nat := min s.size (spaceF B).toNat
def writeF (B : Bf) (s : ByteArray) : Bf := { B with data := B.data ++ (bytesOf s).take (writeN B s), st := B.st ++ List.replicate (writeN B s) 0 }
theorem Rep.heapb {w w3 : World} {b : Nat} {F : Nat → Prop} {B : Bf} {vd vs : Value} (R : Rep w b F B vd vs) {v : Value} (hv : v = vd ∨ v = vs) (hg : w.grownBy w3 v.ownBlock) : w3.heap[b]? = some (.cells (B.cells vd vs) 59 (0, 0)) :=
  (hg.block b (heap_lt R.obj) (fun e => by rcases hv with rfl | rfl; exact (R.fd b e.symm).2 rfl; exact (R.fs b e.symm).2.1 rfl)).trans R.obj
theorem Rep.newData {w w3 : World} {b : Nat} {F : Nat → Prop} {B B' : Bf} {vd vs v1 : Value} (R : Rep w b F B vd vs) (hg : w.grownBy w3 vd.ownBlock) (hk : ∀ k, v1.ownBlock = some k → vd.ownBlock = some k ∨ w.heap.size ≤ k)
    (ho : w3.ownsRow 0 5 1 v1 B'.data.length (B'.data.map (.int .u8))) (e : (B.cells vd vs).setIfInBounds 2 v1 = B'.cells v1 vs) (hs : B'.st = B.st) :
    Chg F w (w3.setCell ⟨b, 2, none⟩ v1) ∧ Rep (w3.setCell ⟨b, 2, none⟩ v1) b (Ext F w (w3.setCell ⟨b, 2, none⟩ v1)) B' v1 vs := by
  have hb := R.heapb (.inl rfl) hg
  have hvd : ∀ k, v1.ownBlock = some k → k ≠ b := fun k h e => by
    subst e
    rcases hk k h with h1 | h1
    · exact (R.fd k h1).2 rfl
    · exact Nat.not_le.2 (heap_lt R.obj) h1
  have hvs : ∀ k, vs.ownBlock = some k → w3.heap[k]? = w.heap[k]? := fun k h => hg.block k (own_lt R.rs k h) (fun e => (R.fs k h).2.2 e.symm)
  refine ⟨(Chg.grownO hg (fun k h => (R.fd k h).1)).set b 2 _ R.fb, ⟨by rw [heap_set v1 hb, e], own_same ho (fun k h => heap_setCell_other w3 _ k v1 (hvd k h)), ?_, .inl R.fb, fun k h => ⟨?_, hvd k h⟩, fun k h => ⟨.inl (R.fs k h).1, (R.fs k h).2.1, fun h1 => ?_⟩⟩⟩
  · rw [hs]
    exact own_same R.rs (fun k h => (heap_setCell_other w3 _ k v1 (R.fs k h).2.1).trans (hvs k h))
  · rcases hk k h with h1 | h1
    · exact .inl (R.fd k h1).1
    · exact .inr ⟨h1, by simpa using own_lt ho k h⟩
  · rcases hk k h1 with h2 | h2
    · exact (R.fs k h).2.2 h2
    · exact Nat.not_le.2 (own_lt R.rs k h) h2
theorem Rep.newStates {w w3 : World} {b : Nat} {F : Nat → Prop} {B B' : Bf} {vd vs v1 : Value} (R : Rep w b F B vd vs) (hg : w.grownBy w3 vs.ownBlock) (hk : ∀ k, v1.ownBlock = some k → vs.ownBlock = some k ∨ w.heap.size ≤ k)
    (ho : w3.ownsRow 0 57 1 v1 B'.st.length (B'.st.map (.int .u8))) (e : (B.cells vd vs).setIfInBounds 3 v1 = B'.cells vd v1) (hs : B'.data = B.data) :
    Chg F w (w3.setCell ⟨b, 3, none⟩ v1) ∧ Rep (w3.setCell ⟨b, 3, none⟩ v1) b (Ext F w (w3.setCell ⟨b, 3, none⟩ v1)) B' vd v1 := by
  have hb := R.heapb (.inr rfl) hg
  have hvd : ∀ k, v1.ownBlock = some k → k ≠ b := fun k h e => by
    subst e
    rcases hk k h with h1 | h1
    · exact (R.fs k h1).2.1 rfl
    · exact Nat.not_le.2 (heap_lt R.obj) h1
  have hvs : ∀ k, vd.ownBlock = some k → w3.heap[k]? = w.heap[k]? := fun k h => hg.block k (own_lt R.rd k h) (fun e => (R.fs k e.symm).2.2 h)
  refine ⟨(Chg.grownO hg (fun k h => (R.fs k h).1)).set b 3 _ R.fb, ⟨by rw [heap_set v1 hb, e], ?_, own_same ho (fun k h => heap_setCell_other w3 _ k v1 (hvd k h)), .inl R.fb, fun k h => ⟨.inl (R.fd k h).1, (R.fd k h).2⟩, fun k h => ⟨?_, hvd k h, fun h1 => ?_⟩⟩⟩
  · rw [hs]
    exact own_same R.rd (fun k h => (heap_setCell_other w3 _ k v1 (R.fd k h).2).trans (hvs k h))
  · rcases hk k h with h1 | h1
    · exact .inl (R.fs k h1).1
    · exact .inr ⟨h1, by simpa using own_lt ho k h⟩
  · rcases hk k h with h2 | h2
    · exact (R.fs k h2).2.2 h1
    · exact Nat.not_le.2 (own_lt R.rd k h1) h2
theorem ext_ext {F : Nat → Prop} {w w1 w4 w6 : World} (h1 : w.heap.size ≤ w1.heap.size) (h2 : w1.heap.size ≤ w4.heap.size) (h3 : w4.heap.size ≤ w6.heap.size) (k : Nat) (h : Ext (Ext F w1 w4) w4 w6 k) : Ext F w w6 k := by
  rcases h with (h | h) | h
  · exact .inl h
  · exact .inr ⟨by omega, by omega⟩
  · exact .inr ⟨by omega, by omega⟩
theorem ext_left {F : Nat → Prop} {w w1 w4 : World} (h1 : w.heap.size ≤ w1.heap.size) (k : Nat) (h : Ext F w1 w4 k) : Ext F w w4 k := by
  rcases h with h | h
  · exact .inl h
  · exact .inr ⟨by omega, h.2⟩
theorem facts5 : (∃ i, Try.prog.info? 5 = some i ∧ i.zero = some (.int .u8 0) ∧ i.size = 1 ∧ i.bytes = 1) := ⟨_, rfl, rfl, rfl, rfl⟩
theorem facts57 : (∃ i, Try.prog.info? 57 = some i ∧ i.zero = some (.int .u8 0) ∧ i.size = 1 ∧ i.bytes = 1) := ⟨_, rfl, rfl, rfl, rfl⟩
theorem one_u8 (m : Nat) : ∀ u ∈ (Builtin.zeroCells (Value.int .u8 0).cells m).toList, u.oneCell' = true := by
  rw [zeroCells_int]; exact ints_oneCell _ _
set_option maxHeartbeats 1000000 in
theorem write_any (b : Nat) (F : Nat → Prop) (B : Bf) (s : ByteArray) (w : World) (h : Inv w b F B) (hg : Good B) (_hs : s.size ≤ maxLen) :
    Calls Try.prog 14 #[.pointer (some ⟨b, 0, none⟩), .string s] w fun e w' => e = .returned (.int .i64 (writeN B s : Int)) ∧ Chg F w w' ∧ Inv w' b (Ext F w w') (writeF B s) := by
  have SP := Lib.hid (fun m => space_any b F B (w.drewN m) (h.drewN m) hg)
  obtain ⟨i5, p1, p2, p3, p4⟩ := facts5
  have P1 := Lib.hid p1; have P2 := Lib.hid p2; have P3 := Lib.hid p3; have P4 := Lib.hid p4
  clear p1 p2 p3 p4
  obtain ⟨i57, q1, q2, q3, q4⟩ := facts57
  have Q1 := Lib.hid q1; have Q2 := Lib.hid q2; have Q3 := Lib.hid q3; have Q4 := Lib.hid q4
  clear q1 q2 q3 q4
  obtain ⟨l1, l2, b0, b1, len, cp, s0, s1⟩ := hg
  have hsp : 0 ≤ spaceF B ∧ spaceF B ≤ 8192 := by unfold spaceF; split <;> omega
  obtain ⟨n, hn⟩ : ∃ n, writeN B s = n := ⟨_, rfl⟩
  have hmin : (n : Int) ≤ s.size ∧ (n : Int) ≤ spaceF B := by unfold writeN at hn; omega
  have HW := Lib.hid (show writeF B s = { B with data := B.data ++ (bytesOf s).take n, st := B.st ++ List.replicate n 0 } from by unfold writeF; rw [hn])
  obtain ⟨vd, vs, h⟩ := h
  have HR := Lib.hid h
  rw [hn]
  have hmn : (if spaceF B < (s.size : Int) then spaceF B else (s.size : Int)) = n := by unfold writeN at hn; split <;> omega
  clear hn
  generalize spaceF B = sp at *
  obtain ⟨hm1, hm2⟩ := hmin
  have hn9 : n ≤ 8192 := by omega
  by_cases h0 : n = 0
  · subst h0
    go_enter Try.func14, Try.ntmps14
    go_wp2_with (go_at_call 19; refine (SP.out 0).mono ?_; rintro e w' ⟨rfl, m, rfl⟩)
    all_goals go_ret
    refine ⟨rfl, ⟨rfl, rfl, rfl, Nat.le_refl _, fun _ _ _ => rfl⟩, vd, vs, ?_⟩
    rw [HW.out]
    simpa using (HR.out.drewN m).ext (fun k h => .inl h)
  · have hns : n ≤ s.size := by omega
    have hsz : (s.extract 0 n).size = n := by simp [ByteArray.size_extract]; omega
    have HS := Lib.hid hsz
    have hd9 : B.data.length ≤ 8192 := by omega
    have hs9 : B.st.length ≤ 8192 := by omega
    clear hsz len
    go_enter Try.func14, Try.ntmps14
    go_wp2_with (go_at_call 19; refine (SP.out 0).mono ?_; rintro e w' ⟨rfl, m, rfl⟩)
    have HR1 := Lib.hid (HR.out.drewN m)
    have HC : Hid (Chg F w (w.drewN m)) := Lib.hid ⟨rfl, rfl, rfl, Nat.le_refl _, fun _ _ _ => rfl⟩
    change Code.wp _ _ _ _ (w.drewN m)
    generalize w.drewN m = w1 at *
    obtain ⟨c0, c1, c2, c3, c4, c5, c6, fr⟩ := HR1.out.facts
    clear c0 c1 c3 c4 c5 c6
    go_region_law ((refine step_append_src (by rfl) _ _ _ _ (by rfl) 0 5 i5 _ 1 1 Try.underlying31 P1.out P2.out P3.out P4.out rfl (by omega) vd B.data.length _ (by rfl) HR1.out.drew.rd (.string (s.extract 0 n)) _ _ (by rfl) (Src.ofString _ Try.underlying9 _) (by rw [HS.out]; unfold maxLen; omega) (by rw [HS.out]; omega) (Nat.zero_le _) ?_; intro v1 w3 ho1 hg1 hk1; obtain ⟨a1, cap1, rfl, hcap1⟩ := own_form ho1; have c2' := (cell_whole (HR1.out.drew.heapb (.inl rfl) hg1) 2).trans (rfl : _ = some vd); have fr' := frozen_whole (HR1.out.drew.heapb (.inl rfl) hg1)))
    all_goals
      have hL : B.data.length + (s.extract 0 n).size = B.data.length + n := by rw [HS.out]
      rw [hL] at ho1 hk1 hcap1
      have hdl : (B.data ++ (bytesOf s).take n).length = B.data.length + n := by rw [List.length_append, List.length_take, bytesOf_length]; omega
      have N1 := Lib.hid (Rep.newData (B' := { B with data := B.data ++ (bytesOf s).take n }) HR1.out.drew hg1 hk1 (by rw [byteCells_of, bytesOf_take, ← List.map_append] at ho1; simpa only [hdl] using ho1) rfl rfl)
      have C1 := Lib.hid (show Chg F w _ from HC.out.trans1 ((Chg.refl F w1).drew.trans1 N1.out.1))
      clear ho1 hk1 hcap1 hg1 c2' fr' c2 fr
      generalize w3.setCell ⟨b, 2, none⟩ (Value.slice a1 (B.data.length + n) cap1) = w4 at *
      generalize hV : Value.slice a1 (B.data.length + n) cap1 = vd1 at *
      have hW1 : w1.heap.size ≤ w4.heap.size := N1.out.1.size
      obtain ⟨c0, c1, c2, c3, c4, c5, c6, fr⟩ := N1.out.2.facts
      clear c0 c1 c2 c4 c5 c6
      go_wp2_with (at_builtin; refine wpList_append_zeros rfl _ _ _ _ rfl n 0 57 i57 _ 1 1 Try.underlying56 .i64 Try.underlying3 Q1.out Q2.out Q3.out Q4.out rfl (by omega) (one_u8 n) vs B.st.length _ rfl N1.out.2.rs rfl (by omega) (by unfold maxLen; omega) (by omega) (Nat.zero_le _) ?_; intro v2 w5 ho2 hg2 hk2; obtain ⟨a2, cap2, rfl, hcap2⟩ := own_form ho2; have c3' := (cell_whole (N1.out.2.heapb (.inr rfl) hg2) 3).trans (rfl : _ = some vs); have fr' := frozen_whole (N1.out.2.heapb (.inr rfl) hg2))
      have hsl : (B.st ++ List.replicate n 0).length = B.st.length + n := by rw [List.length_append, List.length_replicate]
      have N2 := Lib.hid (Rep.newStates (B' := { B with data := B.data ++ (bytesOf s).take n, st := B.st ++ List.replicate n 0 }) N1.out.2 hg2 hk2 (by rw [zeroCells_int, ← List.map_append] at ho2; simpa only [hsl] using ho2) rfl rfl)
      clear ho2 hk2 hcap2 hg2 c3' fr' c3 fr
      go_ret
      have z1 := HC.out.size
      have z2 := N2.out.1.size
      refine ⟨rfl, C1.out.trans (N2.out.1.mono (ext_left z1)), ?_⟩
      rw [HW.out]
      exact ⟨_, _, N2.out.2.ext (ext_ext (w1 := w1.drew) z1 hW1 z2)⟩
end Go.Proofs.Ytmjekepiplibkaa
