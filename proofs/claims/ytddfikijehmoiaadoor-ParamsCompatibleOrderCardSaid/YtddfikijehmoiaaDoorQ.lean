/- Law 20: plain laws: what Decode says of an encoding, of its prefixes and extensions, and of any string. -/
import Derived.Test.YtddfikijehmoiaaDoorS
namespace Go.Proofs.YtddfikijehmoiaaDoor
theorem bytes_of_nums (l : List Int) (h : ∀ x ∈ l, 0 ≤ x ∧ x ≤ 255) : bytesOf (strOfNums l) = l := by
  unfold bytesOf
  rw [strOfNums_data, List.map_map]
  conv => rhs; rw [← List.map_id l]
  apply List.map_congr_left
  intro x hx
  have := h x hx
  obtain ⟨n, rfl⟩ := Int.eq_ofNat_of_zero_le this.1
  simp only [Function.comp, Int.toNat_natCast, id]
  rw [UInt8.toNat_ofNat_of_lt' (by show n < 256; omega)]
theorem nums_of_bytes (s : ByteArray) : strOfNums (bytesOf s) = s := by
  apply ByteArray.ext
  apply Array.toList_inj.1
  rw [strOfNums_data]
  unfold bytesOf
  rw [List.map_map]
  conv => rhs; rw [← List.map_id s.data.toList]
  apply List.map_congr_left
  intro x _
  simp
theorem bytesOf_append (s t : ByteArray) : bytesOf (s ++ t) = bytesOf s ++ bytesOf t := by
  unfold bytesOf; simp
theorem bytesOf_take (s : ByteArray) (k : Nat) : bytesOf (s.extract 0 k) = (bytesOf s).take k := by
  unfold bytesOf
  simp [ByteArray.data_extract, Array.toList_extract, List.map_take]
def encS (p : Pm) : ByteArray := strOfNums (flat (pvals p))
theorem flat_range (ns : List Int) : ∀ x ∈ flat ns, 0 ≤ x ∧ x ≤ 255 := by
  intro x hx
  obtain ⟨n, _, hn⟩ := List.mem_flatMap.1 hx
  exact encV_range n x hn
theorem encS_bytes (p : Pm) : bytesOf (encS p) = flat (pvals p) := bytes_of_nums _ (flat_range _)
theorem encS_size (p : Pm) : (encS p).size = (flat (pvals p)).length := strOfNums_size _
theorem encS_le (p : Pm) : (encS p).size ≤ 48 := by
  rw [encS_size]
  have := flat_le (pvals p)
  rw [show (pvals p).length = 6 from rfl] at this
  exact this
theorem pm_back (p : Pm) : pmOf (pvals p) = p := rfl
theorem pm_vals (ns : List Int) (h : ns.length = 6) : pvals (pmOf ns) = ns := by
  match ns, h with
  | [_, _, _, _, _, _], _ => rfl
theorem dec_ok (s : ByteArray) (p : Pm) (h : decP s = some p) : vldP p = true ∧ encS p = s := by
  unfold decP at h
  cases hp : parse (bytesOf s) 6 with
  | none => rw [hp] at h; cases h
  | some r =>
    obtain ⟨ns, e⟩ := r
    rw [hp] at h
    simp only [Option.bind_some] at h
    split at h
    · rename_i hc
      cases h
      obtain ⟨h1, h2, h3, h4, h5⟩ := parse_ok (bytesOf s) (bytesOf_range s) 6 ns e hp
      refine ⟨hc.2, ?_⟩
      rw [hc.1] at h5
      rw [Int.toNat_natCast, ← bytesOf_length, List.take_length] at h5
      unfold encS
      rw [pm_vals ns h1, ← h5, nums_of_bytes]
    · cases h
theorem parse_two (ns ms a b : List Int) (h : flat ns ++ a = flat ms ++ b) (hn : ns.length = 6) (hm : ms.length = 6) (h1 : ∀ n ∈ ns, 0 ≤ cls n) (h2 : ∀ n ∈ ms, 0 ≤ cls n) : (flat ns).length = (flat ms).length := by
  have e1 := parse_enc 6 ns a hn h1
  have e2 := parse_enc 6 ms b hm h2
  rw [h, e2] at e1
  simp at e1
  omega
theorem dec_whole (p : Pm) (hv : vldP p = true) : decP (encS p) = some p := by
  unfold decP
  have := parse_enc 6 (pvals p) [] rfl (pvals_cls hv)
  rw [List.append_nil] at this
  rw [encS_bytes, this]
  simp only [Option.bind_some]
  rw [pm_back, if_pos ⟨by rw [encS_size], hv⟩]
theorem dec_prefix (p : Pm) (hv : vldP p = true) (k : Nat) (hk : k < (encS p).size) : decP ((encS p).extract 0 k) = none := by
  cases h : decP ((encS p).extract 0 k) with
  | none => rfl
  | some q =>
    obtain ⟨h1, h2⟩ := dec_ok _ q h
    have e := congrArg bytesOf h2
    rw [encS_bytes, bytesOf_take, encS_bytes] at e
    have hl := congrArg List.length e
    rw [List.length_take] at hl
    rw [encS_size] at hk
    have := parse_two (pvals q) (pvals p) ((flat (pvals p)).drop k) [] (by rw [e, List.append_nil, List.take_append_drop]) rfl rfl (pvals_cls h1) (pvals_cls hv)
    omega
theorem dec_ext (p : Pm) (hv : vldP p = true) (t : ByteArray) (ht : 0 < t.size) : decP (encS p ++ t) = none := by
  cases h : decP (encS p ++ t) with
  | none => rfl
  | some q =>
    obtain ⟨h1, h2⟩ := dec_ok _ q h
    have e := congrArg bytesOf h2
    rw [encS_bytes, bytesOf_append, encS_bytes] at e
    have hl := congrArg List.length e
    rw [List.length_append, bytesOf_length] at hl
    have := parse_two (pvals q) (pvals p) [] (bytesOf t) (by rw [e, List.append_nil]) rfl rfl (pvals_cls h1) (pvals_cls hv)
    omega
theorem encS_pos (p : Pm) (hv : vldP p = true) : 0 < (encS p).size := by
  rcases Nat.eq_zero_or_pos (encS p).size with h | h
  · exfalso
    have h2 : parse (flat (pvals p) ++ []) 6 = _ := parse_enc 6 (pvals p) [] rfl (pvals_cls hv)
    rw [List.append_nil, List.length_eq_zero_iff.1 ((encS_size p).symm.trans h)] at h2
    have : parse [] 6 = none := by decide
    rw [this] at h2; cases h2
  · exact h
theorem decE_some {s : ByteArray} {p : Pm} (h : decP s = some p) : decE s = .tuple #[.agg p.cells, .int .i64 0] := by unfold decE; rw [h]
theorem decE_none {s : ByteArray} (h : decP s = none) : decE s = .tuple #[.agg (pmOf []).cells, .int .i64 200] := by unfold decE; rw [h]
end Go.Proofs.YtddfikijehmoiaaDoor
