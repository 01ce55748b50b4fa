/- Law 25: mac's Tag. -/
import Derived.Test.YtieiplalnekmkaaN
import Derived.Lib.SlBytesConst
namespace Go.Proofs.Ytieiplalnekmkaa
open Go.RowKit
def z8 : List Int := [0, 0, 0, 0, 0, 0, 0, 0]
def pad8 (l : List Int) : List Int := l.take 8 ++ List.replicate (8 - l.length) 0
theorem pad8_len (l : List Int) : (pad8 l).length = 8 := by simp [pad8]; omega
theorem copy_pad (w : World) (B : Nat) (s : ByteArray) (hB : w.heap[B]? = some (.cells (u8s z8) 90 (0, 0))) :
    (Builtin.copy_ #[77, 9] 3 #[.slice (some ⟨B, 0, none⟩) 8 8, .string s]).run Try.prog w = .ok (.int .i64 (min s.size 8 : Nat)) (w.setRow B (u8s (pad8 (bytesOf s)))) := by
  obtain ⟨m, hm⟩ : ∃ m, Nat.min s.size 8 = m := ⟨_, rfl⟩
  have hm' : min s.size 8 = m := hm
  obtain ⟨X, hX⟩ : ∃ X, List.take m (List.map (fun b : UInt8 => Value.int IntKind.u8 (b.toNat : Int)) s.data.toList) = X := ⟨_, rfl⟩
  have hsz : (List.map (fun b : UInt8 => Value.int IntKind.u8 (b.toNat : Int)) s.data.toList).length = s.size := by rw [List.length_map, ← Lib.size_eq]
  have hlen : X.length = m := by
    rw [← hX, List.length_take, hsz]; omega
  have hone : ∀ v ∈ X, v.oneCell' = true := by
    intro v hv
    rw [← hX] at hv
    obtain ⟨b, _, rfl⟩ := List.mem_map.1 (List.mem_of_mem_take hv)
    rfl
  have hst := run_storeCells_at Try.prog B 0 90 X 0 (u8s z8) w hB (by rw [hlen]; simp [u8s, z8]; omega) hone
  have e : (X ++ (u8s z8).toList.drop m).toArray = u8s (pad8 (bytesOf s)) := by
    rw [← hX]
    unfold u8s pad8
    simp only [List.map_append]
    congr 2
    · rw [bytesOf, List.map_take, List.map_map]
      by_cases h : s.size ≤ 8
      · obtain rfl : m = s.size := by omega
        rw [List.take_of_length_le (by rw [hsz]; exact Nat.le_refl _), List.take_of_length_le (by rw [List.length_map, ← Lib.size_eq]; exact h)]
        rfl
      · obtain rfl : m = 8 := by omega
        rfl
    · rw [bytesOf_length]
      have h9 : 8 - s.size = 8 - m := by omega
      rw [h9]
      have : m = 0 ∨ m = 1 ∨ m = 2 ∨ m = 3 ∨ m = 4 ∨ m = 5 ∨ m = 6 ∨ m = 7 ∨ m = 8 := by omega
      rcases this with h | h | h | h | h | h | h | h | h <;> subst h <;> rfl
  simp only [Nat.add_zero, Nat.zero_add, List.take_zero, List.nil_append, hlen] at hst
  rw [e] at hst
  rw [hm']
  cases hq : Try.prog.info? 5 with
  | none => have := size5; simp [hq] at this
  | some i =>
    have hi : i.size = 1 := by have := size5; simpa [hq] using this
    simp [Builtin.copy_, run_underlying Try.underlying77, Builtin.lenOf, Builtin.firstCells, sizeOf, typeInfo, hq, hm]
    rw [hX, hst]
    rfl
theorem mkchain_any (key : ByteArray) (w : World) :
    Calls Try.prog 37 #[.string key, .agg #[.int .u8 0, .int .u8 0, .int .u8 0, .int .u8 0, .int .u8 0, .int .u8 0, .int .u8 0, .int .u8 0]] w fun e w' =>
      e = .returned (.func (.func 39) #[] #[.pointer (some ⟨w.heap.size + 1, 0, none⟩), .pointer (some ⟨w.heap.size, 0, none⟩)]) ∧ w' = (w.alloc (.cells #[.string key] 9)).alloc (.cells (u8s z8) 90) := by
  go_enter Try.func37, Try.ntmps37
  go_wp2
  go_ret
  exact ⟨rfl, rfl⟩
def chS (key s : ByteArray) : Nat → List Int
  | 0 => stepF key z8 (pad8 (bytesOf (strOfNums (beB 8 s.size))))
  | k + 1 => stepF key (chS key s k) (pad8 ((bytesOf s).drop (8 * k)))
theorem chS_len (key s : ByteArray) : ∀ k, (chS key s k).length = 8
  | 0 => stepF_len _ _ _
  | _k + 1 => stepF_len _ _ _
theorem size_u8s (l : List Int) (h : l.length = 8) : (Try.prog.info? 90).map (·.size) = some (u8s l).size := by rw [u8s_len8 _ h]; exact size90
theorem neT (s : ByteArray) (h : 0 < s.size) : (!s.toList.isEmpty) = true := by
  rw [Go.ByteArray.toList_eq]
  cases hd : s.data.toList with
  | nil =>
    have h1 : s.data.toList.length = s.size := by simp
    rw [hd] at h1
    simp at h1
    omega
  | cons a l => rfl
theorem ext_ext (s : ByteArray) (k : Nat) (h : 8 * k < s.size) : (s.extract (8 * k) s.size).extract (min (s.size - 8 * k) 8) (s.extract (8 * k) s.size).size = s.extract (8 * (k + 1)) s.size := by
  rw [ByteArray.extract_extract]
  have h1 : (s.extract (8 * k) s.size).size = s.size - 8 * k := by simp
  rw [h1]
  by_cases hh : s.size - 8 * k ≤ 8
  · rw [Nat.min_eq_left hh]
    apply ByteArray.ext
    apply Array.ext'
    simp only [ByteArray.data_extract, Array.toList_extract, List.extract_eq_take_drop]
    have e1 : min (8 * k + (s.size - 8 * k)) s.size - (8 * k + (s.size - 8 * k)) = 0 := by omega
    have e2 : s.size - 8 * (k + 1) = 0 := by omega
    rw [e1, e2, List.take_zero, List.take_zero]
  · rw [Nat.min_eq_right (by omega)]
    congr 1
    omega
def strLen : Value → Nat
  | .string x => x.size
  | _ => 0
def tagF (key s : ByteArray) : ByteArray := strOfNums (chS key s ((s.size + 7) / 8))
theorem sON_size (l : List Int) : (strOfNums l).size = l.length := by simp [strOfNums, ByteArray.size]
theorem tagF_size (key s : ByteArray) : (tagF key s).size = 8 := by unfold tagF; rw [sON_size, chS_len]
theorem bytesOf_ext (s : ByteArray) (a : Nat) : bytesOf (s.extract a s.size) = (bytesOf s).drop a := by
  simp only [bytesOf, ByteArray.data_extract, Array.toList_extract, List.extract_eq_take_drop, List.map_take, List.map_drop]
  rw [List.take_of_length_le]
  rw [List.length_drop, List.length_map, ← Lib.size_eq]
  exact Nat.le_refl _
set_option maxRecDepth 100000 in
set_option maxHeartbeats 4000000 in
theorem tag_any (key s : ByteArray) (w : World) (hk : key.size = 16) (hs : s.size ≤ 65536) :
    Calls Try.prog 34 #[.string key, .string s] w fun e w' => e = .returned (.tuple #[.string (tagF key s), .int .i64 0]) ∧ Below w.heap.size w w' := by
  have U8 := Lib.hid (fun w => uint_8 s.size w (by omega) (by omega))
  have CH := Lib.hid (fun c b C K w => fun hc hb hC hK hne => chain_any key c b C K w hk hc hb hC hK hne)
  have hk1 : ((key.size : Int) != 16) = false := by simp [hk]
  have hs2 : (s.size : Int) ≤ 65536 := by omega
  have hs3 : decide ((65536 : Int) < (s.size : Int)) = false := by simp; omega
  unfold tagF
  go_enter Try.func34, Try.ntmps34
  go_wp2_with fail
  refine (U8.out _).mono ?_
  rintro e w1 ⟨rfl, hb1⟩
  have HB1 := Lib.hid hb1
  clear hb1
  go_wp2_with fail
  refine (mkchain_any key _).mono ?_
  rintro e w2 ⟨rfl, rfl⟩
  have F := Lib.hid (box3 w1 (.cells #[.string key] 9) (.cells (u8s z8) 90) (.cells #[.int .u8 0, .int .u8 0, .int .u8 0, .int .u8 0, .int .u8 0, .int .u8 0, .int .u8 0, .int .u8 0] 90))
  have hcp := copy_pad _ (w1.heap.size + 1 + 1) (strOfNums (beB 8 s.size)) F.out.2.2.1
  rw [beS_size] at hcp
  have P0l := pad8_len (bytesOf (strOfNums (beB 8 s.size)))
  have HP0 : Hid (chS key s 0 = stepF key z8 (pad8 (bytesOf (strOfNums (beB 8 s.size))))) := Lib.hid rfl
  obtain ⟨P0, hP0⟩ : ∃ P0, pad8 (bytesOf (strOfNums (beB 8 s.size))) = P0 := ⟨_, rfl⟩
  rw [hP0] at hcp P0l HP0
  have SZ := Lib.hid (size_u8s P0 P0l)
  have LR := Lib.hid (setRow_heap _ _ _ (u8s P0) _ _ F.out.2.2.1)
  have LC := Lib.hid ((setRow_other _ (w1.heap.size + 1 + 1) (w1.heap.size + 1) (u8s P0) (by omega)).trans F.out.2.1)
  have LK := Lib.hid ((setRow_other _ (w1.heap.size + 1 + 1) (w1.heap.size) (u8s P0) (by omega)).trans F.out.1)
  have BV := Lib.hid (btrans HB1.out (below_setRow F.out.2.2.2.1 (show w1.heap.size ≤ w1.heap.size + 1 + 1 by omega) (u8s P0)))
  have HP := Lib.hid P0l
  clear hP0 P0l F
  go_wp2_with (refine wpList_load_row rfl 90 _ rfl (w1.heap.size + 1 + 1) rfl 90 _ (0, 0) _ LR.out Try.underlying90 rfl SZ.out ?_)
  generalize ((((w1.alloc (Obj.cells #[Value.string key] 9)).alloc (Obj.cells (u8s z8) 90)).alloc (Obj.cells #[.int .u8 0, .int .u8 0, .int .u8 0, .int .u8 0, .int .u8 0, .int .u8 0, .int .u8 0, .int .u8 0] 90)).setRow (w1.heap.size + 1 + 1) (u8s P0)) = V at *
  clear hcp
  have CH0 := CH.out z8 P0 (w1.heap.size + 1) w1.heap.size V rfl HP.out LC.out (at_whole LK.out 0 rfl) (by omega)
  rw [← HP0.out] at CH0
  refine CH0.mono ?_
  rintro e w3 ⟨rfl, hB3⟩
  have hz := chS_len key s 0
  have SZ0 := Lib.hid (size_u8s _ hz)
  have SZ1 : Hid ((8 : Nat) = (u8s (chS key s 0)).size) := Lib.hid (u8s_len8 _ hz).symm
  have HB3 := Lib.hid hB3
  have RZ := Lib.hid (heap_alloc_new w3 (.cells #[.int .u8 0, .int .u8 0, .int .u8 0, .int .u8 0, .int .u8 0, .int .u8 0, .int .u8 0, .int .u8 0] 90))
  clear hB3 hz CH0
  go_wp2_with ((refine wpList_store_row rfl 90 _ _ rfl w3.heap.size _ rfl rfl 90 _ RZ.out SZ0.out SZ1.out (u8s_one _) ?_); rw [World.setRow_alloc_new])
  have R3 : Hid ((w3.alloc (.cells (u8s (chS key s 0)) 90)).heap[w1.heap.size]? = some (.cells #[.string key] 9 (0, 0)) ∧ (w3.alloc (.cells (u8s (chS key s 0)) 90)).heap[w1.heap.size + 1]? = some (.cells (u8s (chS key s 0)) 90 (0, 0)) ∧
      (w3.alloc (.cells (u8s (chS key s 0)) 90)).heap[w1.heap.size + 1 + 1]? = some (.cells (u8s P0) 90 (0, 0)) ∧ (w3.alloc (.cells (u8s (chS key s 0)) 90)).heap[w3.heap.size]? = some (.cells (u8s (chS key s 0)) 90 (0, 0)) ∧ Below w.heap.size w (w3.alloc (.cells (u8s (chS key s 0)) 90))) := by
    have hl := heap_lt HB3.out.1
    have al := (Below.refl w3.heap.size w3).alloc (Nat.le_refl _) (.cells (u8s (chS key s 0)) 90)
    exact Lib.hid ⟨heap_below al (heap_grown HB3.out.2 LK.out (by omega)), heap_below al HB3.out.1, heap_below al (heap_grown HB3.out.2 LR.out (by omega)), heap_alloc_new _ _, (btrans (BV.out.grown HB3.out.2 BV.out.size (fun k e => by cases e; have := HB1.out.size; omega)) al)⟩
  have lt3 : w1.heap.size + 1 + 1 < w3.heap.size := Nat.lt_of_lt_of_le (heap_lt LR.out) HB3.out.2.size
  have lw : w.heap.size ≤ w1.heap.size := HB1.out.size
  clear SZ0 SZ1 RZ HB3 LK LR LC BV SZ HP0
  generalize w3.alloc (.cells (u8s (chS key s 0)) 90) = V3 at R3 ⊢
  generalize w3.heap.size = T at R3 lt3 ⊢
  simp only [Act.put]
  have hE0 : s.extract (8 * 0) s.size = s := by simp
  have HE0 := Lib.hid hE0
  clear hE0
  have CHN := Lib.hid (fun k => (rfl : chS key s (k + 1) = stepF key (chS key s k) (pad8 ((bytesOf s).drop (8 * k)))))
  have CHL := Lib.hid (chS_len key s)
  go_loopw [1] (fun sv wr => ∃ k : Nat, sv = .string (s.extract (8 * k) s.size) ∧ 8 * k < s.size + 8 ∧ wr.heap[w1.heap.size]? = some (.cells #[.string key] 9 (0, 0)) ∧ wr.heap[w1.heap.size + 1]? = some (.cells (u8s (chS key s k)) 90 (0, 0)) ∧ (∃ X : List Int, X.length = 8 ∧ wr.heap[w1.heap.size + 1 + 1]? = some (.cells (u8s X) 90 (0, 0))) ∧ wr.heap[T]? = some (.cells (u8s (chS key s k)) 90 (0, 0)) ∧ Below w.heap.size w wr)
    (fun sv _ => strLen sv)
  case atStart => exact ⟨0, by rw [HE0.out], by omega, R3.out.1, R3.out.2.1, ⟨P0, HP.out, R3.out.2.2.1⟩, R3.out.2.2.2.1, R3.out.2.2.2.2⟩
  case round =>
    obtain ⟨k, rfl, hk8, hK, hC, ⟨X, hX, hB⟩, hT, hb⟩ := hrel
    by_cases hlt : 8 * k < s.size
    · have hsz : (s.extract (8 * k) s.size).size = s.size - 8 * k := by simp
      have hby : bytesOf (s.extract (8 * k) s.size) = (bytesOf s).drop (8 * k) := bytesOf_ext s (8 * k)
      have hnx : (s.extract (8 * k) s.size).extract (min (s.size - 8 * k) 8) (s.extract (8 * k) s.size).size = s.extract (8 * (k + 1)) s.size := ext_ext s k hlt
      have HN := Lib.hid (And.intro hsz (And.intro hby hnx))
      have hne := neT (s.extract (8 * k) s.size) (by omega)
      have hne2 : (s.extract (8 * k) s.size).toList.isEmpty = false := by simpa using hne
      have hsz2 := hsz
      have hcp := copy_pad (wr.setRow (w1.heap.size + 1 + 1) (u8s z8)) (w1.heap.size + 1 + 1) (s.extract (8 * k) s.size) (setRow_heap _ _ _ _ _ _ hB)
      rw [hsz] at hcp
      obtain ⟨r, hr⟩ : ∃ r, min (s.size - 8 * k) 8 = r := ⟨_, rfl⟩
      rw [hr] at hcp
      have hr0 : (0 : Int) ≤ (r : Int) := by omega
      have hr4 : 0 < r := by omega
      have hr1 : (r : Int) ≤ ((s.extract (8 * k) s.size).size : Int) := by rw [hsz]; omega
      have hr2 : (r : Int).toNat = r := by omega
      have hr3 : r ≤ (s.extract (8 * k) s.size).size := by rw [hsz]; omega
      rw [hr] at HN
      obtain ⟨Y, hY⟩ : ∃ Y, s.extract (8 * k) s.size = Y := ⟨_, rfl⟩
      rw [hY] at HN hne hne2 hcp hr1 hr3 ⊢
      have SZX := Lib.hid (And.intro (size_u8s z8 rfl) (show (u8s X).size = (u8s z8).size from (u8s_len8 X hX).trans rfl))
      have HP' := Lib.hid (pad8_len (bytesOf Y))
      have PZ := Lib.hid (size_u8s _ HP'.out)
      have hwB : ((wr.setRow (w1.heap.size + 1 + 1) (u8s z8)).setRow (w1.heap.size + 1 + 1) (u8s (pad8 (bytesOf Y)))).heap[w1.heap.size + 1 + 1]? = some (.cells (u8s (pad8 (bytesOf Y))) 90 (0, 0)) := setRow_heap _ _ _ _ _ _ (setRow_heap _ _ _ _ _ _ hB)
      have HWB := Lib.hid hwB
      have HBB := Lib.hid hB
      clear hB hwB hsz hsz2 hby hnx hr hY
      go_wp2_with (first | (refine wpList_store_row rfl 90 _ _ rfl (w1.heap.size + 1 + 1) (u8s z8) rfl rfl 90 _ HBB.out SZX.out.1 SZX.out.2 (u8s_one _) ?_) | (refine wpList_load_row rfl 90 _ rfl (w1.heap.size + 1 + 1) rfl 90 _ (0, 0) _ HWB.out Try.underlying90 rfl PZ.out ?_))
      have nT : T ≠ w1.heap.size + 1 + 1 := by omega
      have n1 : w1.heap.size + 1 ≠ w1.heap.size + 1 + 1 := by omega
      have n0 : w1.heap.size ≠ w1.heap.size + 1 + 1 := by omega
      have K2 := (setRow_other (wr.setRow (w1.heap.size + 1 + 1) (u8s z8)) _ _ (u8s (pad8 (bytesOf Y))) n0).trans ((setRow_other wr _ _ (u8s z8) n0).trans hK)
      have C2 := (setRow_other (wr.setRow (w1.heap.size + 1 + 1) (u8s z8)) _ _ (u8s (pad8 (bytesOf Y))) n1).trans ((setRow_other wr _ _ (u8s z8) n1).trans hC)
      have T2 := (setRow_other (wr.setRow (w1.heap.size + 1 + 1) (u8s z8)) _ _ (u8s (pad8 (bytesOf Y))) nT).trans ((setRow_other wr _ _ (u8s z8) nT).trans hT)
      have B2 := below_setRow (below_setRow hb (show w.heap.size ≤ w1.heap.size + 1 + 1 by omega) (u8s z8)) (show w.heap.size ≤ w1.heap.size + 1 + 1 by omega) (u8s (pad8 (bytesOf Y)))
      generalize (wr.setRow (w1.heap.size + 1 + 1) (u8s z8)).setRow (w1.heap.size + 1 + 1) (u8s (pad8 (bytesOf Y))) = V4 at *
      have hst : chS key s (k + 1) = stepF key (chS key s k) (pad8 (bytesOf Y)) := by rw [HN.out.2.1]; rfl
      have CHk := CH.out (chS key s k) (pad8 (bytesOf Y)) (w1.heap.size + 1) w1.heap.size V4 (CHL.out k) HP'.out C2 (at_whole K2 0 rfl) (by omega)
      rw [← hst] at CHk
      refine CHk.mono ?_
      rintro e w5 ⟨rfl, hB5⟩
      have lT := CHL.out (k + 1)
      have SZT := Lib.hid (And.intro (size_u8s _ lT) (show (u8s (chS key s k)).size = (u8s (chS key s (k + 1))).size from (u8s_len8 _ (CHL.out k)).trans (u8s_len8 _ lT).symm))
      have R5 := Lib.hid (And.intro (heap_grown hB5.2 K2 (by omega)) (And.intro hB5.1 (And.intro (heap_grown hB5.2 HWB.out (by omega)) (And.intro (heap_grown hB5.2 T2 (by omega)) (B2.grown hB5.2 B2.size (fun k e => by cases e; omega))))))
      clear hst CHk lT K2 C2 T2 B2 hB5 HBB HWB SZX hcp hK hC hT hb
      go_wp2_with (refine wpList_store_row rfl 90 _ _ rfl T _ rfl rfl 90 _ R5.out.2.2.2.1 SZT.out.1 SZT.out.2 (u8s_one _) ?_)
      simp only [Act.put]
      go_roundw
      case rel =>
        refine ⟨k + 1, by rw [HN.out.2.2], by omega, (setRow_other _ _ _ _ (by omega)).trans R5.out.1, (setRow_other _ _ _ _ (by omega)).trans R5.out.2.1, ⟨_, HP'.out, (setRow_other _ _ _ _ (by omega)).trans R5.out.2.2.1⟩, setRow_heap _ _ _ _ _ _ R5.out.2.2.2.1, below_setRow R5.out.2.2.2.2 (by omega) _⟩
      case measure => simp [strLen]; have := HN.out.1; omega
    · have hsz : (s.extract (8 * k) s.size).size = 0 := by simp; omega
      have hem : (s.extract (8 * k) s.size) = ⟨#[]⟩ := by
        apply ByteArray.ext
        exact Array.eq_empty_of_size_eq_zero hsz
      rw [hem]
      have hkk : k = (s.size + 7) / 8 := by omega
      have hcv := run_convert_bytes_arg (P := Try.prog) wr 77 5 Try.underlying77 Try.underlying5 T 0 8 8 (chS key s k) (CHL.out k) (fun i hi => by rw [Nat.zero_add]; exact at_whole hT i (u8s_at _ i (by rw [CHL.out]; exact hi))) 9 Try.underlying9
      have HKK := Lib.hid hkk
      have HB := Lib.hid hb
      clear hkk hsz hem hK hC hB hT hb hlt hk8 hX
      go_wp2
      go_ret2
      exact ⟨by rw [← HKK.out]; rfl, HB.out⟩
end Go.Proofs.Ytieiplalnekmkaa
