/- Texts FTkf FTkg FTkk of this claim, one behind the other. -/
import Derived.Test.YtpfkeohaaeiaaaaGreatDoorRc8
/- Law 13: what a Tracker holds, in plain data. -/
namespace Go.Proofs.YtpfkeohaaeiaaaaGreatDoor.frm
open Go.RowKit Go.Sort
set_option maxRecDepth 100000
def zg (zs : List Int) (i : Nat) : Int := zs[i]?.getD 0
theorem zg_set (zs : List Int) (i j : Nat) (x : Int) (hi : i < zs.length) : zg (zs.set i x) j = if i = j then x else zg zs j := by
  unfold zg
  rw [List.getElem?_set]
  by_cases h : i = j
  · subst h
    simp [hi]
  · simp [h]
/-- n intervals in ascending order, all numbers in them below top; the largest number lg came at wh; few numbers came -/
structure TkOk (zs : List Int) (n : Nat) (top lg wh few : Int) : Prop where
  len : zs.length = 41
  many : zg zs 34 = (n : Int)
  le : n ≤ 16
  rg : ∀ k, k < n → 0 ≤ zg zs (k * 2) ∧ zg zs (k * 2) < zg zs (k * 2 + 1) ∧ zg zs (k * 2 + 1) ≤ top
  gap : ∀ j k, j < k → k < n → zg zs (j * 2 + 1) < zg zs (k * 2)
  size : ∀ m, n = m + 1 → 2 * (n : Int) ≤ zg zs (m * 2 + 1) + 1
  top0 : 0 ≤ top
  dl0 : 0 ≤ zg zs 35
  dl1 : zg zs 35 ≤ 20
  fl : zg zs 36 = 0
  lg : zg zs 37 = lg
  wh : zg zs 38 = wh
  c0 : 0 ≤ zg zs 39
  c1 : zg zs 39 ≤ few
  d0 : -1 ≤ zg zs 40
  d1 : zg zs 40 ≤ 4000000000000
/-- the number is in one of the intervals -/
def covB (zs : List Int) (n : Nat) (i : Int) : Bool := (List.range n).any (fun k => decide (zg zs (k * 2) ≤ i) && decide (i < zg zs (k * 2 + 1)))
theorem covB_iff {zs : List Int} {n : Nat} {i : Int} : covB zs n i = true ↔ ∃ k, k < n ∧ zg zs (k * 2) ≤ i ∧ i < zg zs (k * 2 + 1) := by
  unfold covB
  simp [List.any_eq_true, List.mem_range]
theorem hasB_cov (zs : List Int) (n : Nat) (i : Int) : hasB i (ivs zs n) = covB zs n i := by
  unfold hasB ivs covB
  rw [List.any_map]
  rfl
theorem TkOk.cov_lt {zs : List Int} {n : Nat} {top lg wh few : Int} (h : TkOk zs n top lg wh few) {i : Int} (hc : covB zs n i = true) : 0 ≤ i ∧ i < top := by
  obtain ⟨k, hk, h1, h2⟩ := covB_iff.1 hc
  have := h.rg k hk
  omega
theorem TkOk.not_cov {zs : List Int} {n : Nat} {top lg wh few : Int} (h : TkOk zs n top lg wh few) {i : Int} (hi : top ≤ i) : covB zs n i = false := by
  cases e : covB zs n i with
  | false => rfl
  | true => have := h.cov_lt e; omega
variable {zs : List Int} {n : Nat} {top lg wh few : Int}
/-- the other fields may turn -/
theorem TkOk.rest (h : TkOk zs n top lg wh few) (lg' wh' c d : Int) (hc0 : 0 ≤ c) (hc1 : c ≤ few + 1) (hd0 : -1 ≤ d) (hd1 : d ≤ 4000000000000) :
    TkOk ((((zs.set 37 lg').set 38 wh').set 39 c).set 40 d) n top lg' wh' (few + 1) ∧ ∀ i, covB ((((zs.set 37 lg').set 38 wh').set 39 c).set 40 d) n i = covB zs n i := by
  have hl := h.len
  have e : ∀ j, zg ((((zs.set 37 lg').set 38 wh').set 39 c).set 40 d) j = if 40 = j then d else if 39 = j then c else if 38 = j then wh' else if 37 = j then lg' else zg zs j := fun j => by
    rw [zg_set _ _ _ _ (by simp [hl]), zg_set _ _ _ _ (by simp [hl]), zg_set _ _ _ _ (by simp [hl]), zg_set _ _ _ _ (by simp [hl])]
  have e' : ∀ j, j < 37 → zg ((((zs.set 37 lg').set 38 wh').set 39 c).set 40 d) j = zg zs j := fun j hj => by
    rw [e, if_neg (by omega), if_neg (by omega), if_neg (by omega), if_neg (by omega)]
  have hn := h.le
  refine ⟨⟨by simp [hl], by rw [e' _ (by omega)]; exact h.many, hn, fun k hk => ?_, fun j k hj hk => ?_, fun m hm => by rw [e' _ (by omega)]; exact h.size m hm, h.top0, by rw [e' _ (by omega)]; exact h.dl0, by rw [e' _ (by omega)]; exact h.dl1, by rw [e' _ (by omega)]; exact h.fl,
    by rw [e]; rfl, by rw [e]; rfl, by rw [e]; exact hc0, by rw [e]; exact hc1, by rw [e]; exact hd0, by rw [e]; exact hd1⟩, fun i => ?_⟩
  · rw [e' _ (by omega), e' _ (by omega)]; exact h.rg k hk
  · rw [e' _ (by omega), e' _ (by omega)]; exact h.gap j k hj hk
  · rw [Bool.eq_iff_iff, covB_iff, covB_iff]
    constructor
    · rintro ⟨k, hk, h1, h2⟩
      rw [e' _ (by omega)] at h1 h2
      exact ⟨k, hk, h1, h2⟩
    · rintro ⟨k, hk, h1, h2⟩
      refine ⟨k, hk, ?_, ?_⟩ <;> rw [e' _ (by omega)] <;> assumption
/-- the last interval made longer -/
theorem TkOk.longer {m : Nat} (h : TkOk zs (m + 1) top lg wh few) (pn : Int) (he : zg zs (m * 2 + 1) = pn) (ht : top ≤ pn) :
    TkOk (zs.set (m * 2 + 1) (pn + 1)) (m + 1) (pn + 1) lg wh few ∧ ∀ i, covB (zs.set (m * 2 + 1) (pn + 1)) (m + 1) i = (covB zs (m + 1) i || decide (i = pn)) := by
  have hl := h.len
  have hn := h.le
  have e : ∀ j, zg (zs.set (m * 2 + 1) (pn + 1)) j = if m * 2 + 1 = j then pn + 1 else zg zs j := fun j => zg_set _ _ _ _ (by omega)
  have e' : ∀ j, 34 ≤ j → zg (zs.set (m * 2 + 1) (pn + 1)) j = zg zs j := fun j hj => by rw [e, if_neg (by omega)]
  have hm := h.rg m (by omega)
  have ht0 := h.top0
  have hsz := h.size m rfl
  have ef : ∀ k, zg (zs.set (m * 2 + 1) (pn + 1)) (k * 2) = zg zs (k * 2) := fun k => by rw [e, if_neg (by omega)]
  have et : ∀ k, zg (zs.set (m * 2 + 1) (pn + 1)) (k * 2 + 1) = if k = m then pn + 1 else zg zs (k * 2 + 1) := fun k => by
    rw [e]
    by_cases hk : k = m
    · rw [if_pos hk, if_pos (by omega)]
    · rw [if_neg hk, if_neg (by omega)]
  refine ⟨⟨by simp [hl], by rw [e' _ (by omega)]; exact h.many, hn, fun k hk => ?_, fun j k hj hk => ?_, fun m' hm' => by rw [et, if_pos (by omega)]; omega, by omega, by rw [e' _ (by omega)]; exact h.dl0, by rw [e' _ (by omega)]; exact h.dl1, by rw [e' _ (by omega)]; exact h.fl,
    by rw [e' _ (by omega)]; exact h.lg, by rw [e' _ (by omega)]; exact h.wh, by rw [e' _ (by omega)]; exact h.c0, by rw [e' _ (by omega)]; exact h.c1, by rw [e' _ (by omega)]; exact h.d0, by rw [e' _ (by omega)]; exact h.d1⟩, fun i => ?_⟩
  · rw [ef, et]
    have := h.rg k hk
    by_cases hk2 : k = m
    · subst hk2; rw [if_pos rfl]; omega
    · rw [if_neg hk2]; omega
  · rw [ef, et, if_neg (by omega)]
    exact h.gap j k hj hk
  · rw [Bool.eq_iff_iff, Bool.or_eq_true, covB_iff, covB_iff, decide_eq_true_eq]
    constructor
    · rintro ⟨k, hk, h1, h2⟩
      rw [ef] at h1
      rw [et] at h2
      by_cases hk2 : k = m
      · subst hk2
        rw [if_pos rfl] at h2
        by_cases hi : i = pn
        · exact .inr hi
        · exact .inl ⟨k, hk, h1, by omega⟩
      · rw [if_neg hk2] at h2
        exact .inl ⟨k, hk, h1, h2⟩
    · rintro (⟨k, hk, h1, h2⟩ | rfl)
      · refine ⟨k, hk, by rw [ef]; exact h1, ?_⟩
        rw [et]
        by_cases hk2 : k = m
        · subst hk2; rw [if_pos rfl]; omega
        · rw [if_neg hk2]; exact h2
      · refine ⟨m, by omega, by rw [ef]; omega, by rw [et, if_pos rfl]; omega⟩
/-- a new interval -/
theorem TkOk.more (h : TkOk zs n top lg wh few) (pn : Int) (hp : 0 ≤ pn) (ht : top ≤ pn) (hl2 : ∀ k, k < n → zg zs (k * 2 + 1) < pn) (hn16 : n < 16) :
    TkOk (((zs.set (n * 2) pn).set (n * 2 + 1) (pn + 1)).set 34 ((n : Int) + 1)) (n + 1) (pn + 1) lg wh few ∧ ∀ i, covB (((zs.set (n * 2) pn).set (n * 2 + 1) (pn + 1)).set 34 ((n : Int) + 1)) (n + 1) i = (covB zs n i || decide (i = pn)) := by
  have hl := h.len
  have e : ∀ j, zg (((zs.set (n * 2) pn).set (n * 2 + 1) (pn + 1)).set 34 ((n : Int) + 1)) j = if 34 = j then (n : Int) + 1 else if n * 2 + 1 = j then pn + 1 else if n * 2 = j then pn else zg zs j := fun j => by
    rw [zg_set _ _ _ _ (by simp [hl]), zg_set _ _ _ _ (by simp [hl]; omega), zg_set _ _ _ _ (by omega)]
  have e' : ∀ j, 35 ≤ j → zg (((zs.set (n * 2) pn).set (n * 2 + 1) (pn + 1)).set 34 ((n : Int) + 1)) j = zg zs j := fun j hj => by rw [e, if_neg (by omega), if_neg (by omega), if_neg (by omega)]
  have ef : ∀ k, k ≤ n → zg (((zs.set (n * 2) pn).set (n * 2 + 1) (pn + 1)).set 34 ((n : Int) + 1)) (k * 2) = if k = n then pn else zg zs (k * 2) := fun k hk => by
    rw [e, if_neg (by omega), if_neg (by omega)]
    by_cases h2 : k = n
    · rw [if_pos h2, if_pos (by omega)]
    · rw [if_neg h2, if_neg (by omega)]
  have et : ∀ k, k ≤ n → zg (((zs.set (n * 2) pn).set (n * 2 + 1) (pn + 1)).set 34 ((n : Int) + 1)) (k * 2 + 1) = if k = n then pn + 1 else zg zs (k * 2 + 1) := fun k hk => by
    rw [e, if_neg (by omega)]
    by_cases h2 : k = n
    · rw [if_pos h2, if_pos (by omega)]
    · rw [if_neg h2, if_neg (by omega), if_neg (by omega)]
  have ht0 := h.top0
  have hsz2 : 2 * (n : Int) ≤ pn := by
    rcases Nat.eq_zero_or_pos n with h0 | h0
    · omega
    · have h1 := h.size (n - 1) (by omega)
      have h2 := hl2 (n - 1) (by omega)
      omega
  refine ⟨⟨by simp [hl], by rw [e]; simp, by omega, fun k hk => ?_, fun j k hj hk => ?_, fun m' hm' => by rw [et m' (by omega), if_pos (by omega)]; push_cast; omega, by omega, by rw [e' _ (by omega)]; exact h.dl0, by rw [e' _ (by omega)]; exact h.dl1, by rw [e' _ (by omega)]; exact h.fl,
    by rw [e' _ (by omega)]; exact h.lg, by rw [e' _ (by omega)]; exact h.wh, by rw [e' _ (by omega)]; exact h.c0, by rw [e' _ (by omega)]; exact h.c1, by rw [e' _ (by omega)]; exact h.d0, by rw [e' _ (by omega)]; exact h.d1⟩, fun i => ?_⟩
  · rw [ef k (by omega), et k (by omega)]
    by_cases hk2 : k = n
    · rw [if_pos hk2, if_pos hk2]; omega
    · rw [if_neg hk2, if_neg hk2]
      have := h.rg k (by omega)
      omega
  · rw [ef k (by omega), et j (by omega), if_neg (by omega)]
    by_cases hk2 : k = n
    · rw [if_pos hk2]; exact hl2 j (by omega)
    · rw [if_neg hk2]; exact h.gap j k hj (by omega)
  · rw [Bool.eq_iff_iff, Bool.or_eq_true, covB_iff, covB_iff, decide_eq_true_eq]
    constructor
    · rintro ⟨k, hk, h1, h2⟩
      rw [ef k (by omega)] at h1
      rw [et k (by omega)] at h2
      by_cases hk2 : k = n
      · rw [if_pos hk2] at h1 h2
        exact .inr (by omega)
      · rw [if_neg hk2] at h1 h2
        exact .inl ⟨k, by omega, h1, h2⟩
    · rintro (⟨k, hk, h1, h2⟩ | rfl)
      · exact ⟨k, by omega, by rw [ef k (by omega), if_neg (by omega)]; exact h1, by rw [et k (by omega), if_neg (by omega)]; exact h2⟩
      · exact ⟨n, by omega, by rw [ef n (by omega), if_pos rfl]; omega, by rw [et n (by omega), if_pos rfl]; omega⟩
end Go.Proofs.YtpfkeohaaeiaaaaGreatDoor.frm
/- Law 13: Receive (numbers in order) and New of a Tracker. -/
namespace Go.Proofs.YtpfkeohaaeiaaaaGreatDoor.frm
open Go.RowKit Go.Sort
set_option maxRecDepth 100000
variable {zs : List Int} {n : Nat} {top lg wh few : Int}
theorem TkAt.zg {w : World} {t : Nat} (h : TkAt w t zs) (i : Nat) (hi : i < 41) {x : Int} (hx : zg zs i = x) : w.cell? ⟨t, i, none⟩ = some (.int .i64 x) := by
  rw [← hx]; exact h.cell i hi
/-- a new Tracker -/
def zs0 (dl : Int) : List Int := (List.replicate 35 0) ++ [dl, 0, -1, 0, 0, -1]
set_option maxRecDepth 100000 in
set_option maxHeartbeats 4000000 in
theorem new_tr (dl : Int) (h0 : 0 ≤ dl) (h1 : dl ≤ 20) (w : World) : Calls Tryz.prog 29 #[.int .i64 dl] w fun e w' => e = .returned (.tuple #[.pointer (some ⟨w.heap.size, 0, none⟩), .int .i64 0]) ∧ w' = w.alloc (.cells ((zs0 dl).map (Value.int .i64)).toArray 108) := by
  have a1 : (dl < 0) = False := eq_false (by omega)
  have a2 : (20 < dl) = False := eq_false (by omega)
  go_enter Tryz.func29, Tryz.ntmps29
  go_wp2
  go_ret2
  exact ⟨rfl, rfl⟩
end Go.Proofs.YtpfkeohaaeiaaaaGreatDoor.frm
/- Law 13: add of a Tracker, where the number lies below the last interval; remove of the last interval. -/
namespace Go.Proofs.YtpfkeohaaeiaaaaGreatDoor.frm
open Go.RowKit Go.Sort
set_option maxRecDepth 100000
theorem slice_tail (t k n : Nat) (w : World) (hk : k ≤ 16) (hn : n ≤ 17) (hkn : k ≤ n) : (Instr.sliceAt 104 (.pointer (some ⟨t, 0, none⟩)) (some (.int .i64 k)) (some (.int .i64 n)) none).run Tryz.prog w = .ok (.slice (some ⟨t, k * 2, none⟩) (n - k) (17 - k)) w := by
  have i6 : (k : Int) ≤ (n : Int) := by omega
  have i7 : ¬ 17 = k := by omega
  have i8 : (n : Int) ≤ 17 := by omega
  simp [go_sem, i6, i7, i8]
end Go.Proofs.YtpfkeohaaeiaaaaGreatDoor.frm
