/- Texts Tkf Tkg Tkk Tkl Rt Z of this claim, one behind the other. -/
import Derived.Test.YtpfkeohaaeiaaaaGreatMs4
import Derived.Deep.RegionWith
import Derived.StillTailTactics
/- Law 13: what a Tracker holds, in plain data. -/
namespace Go.Proofs.YtpfkeohaaeiaaaaGreat
open Go.RowKit Go.Sort
def zg (zs : List Int) (i : Nat) : Int := zs[i]?.getD 0
theorem zg_set (zs : List Int) (i j : Nat) (x : Int) (hi : i < zs.length) : zg (zs.set i x) j = if i = j then x else zg zs j := by
  unfold zg
  rw [List.getElem?_set]
  by_cases h : i = j
  · subst h
    simp [hi]
  · simp [h]
/-- n intervals in ascending order, all numbers in them below top; the largest number lg came at wh; few numbers came -/
structure TkOk (zs : List Int) (n : Nat) (top lg wh few : Int) : Prop where
  len : zs.length = 41
  many : zg zs 34 = (n : Int)
  le : n ≤ 16
  rg : ∀ k, k < n → 0 ≤ zg zs (k * 2) ∧ zg zs (k * 2) < zg zs (k * 2 + 1) ∧ zg zs (k * 2 + 1) ≤ top
  gap : ∀ j k, j < k → k < n → zg zs (j * 2 + 1) < zg zs (k * 2)
  size : ∀ m, n = m + 1 → 2 * (n : Int) ≤ zg zs (m * 2 + 1) + 1
  top0 : 0 ≤ top
  dl0 : 0 ≤ zg zs 35
  dl1 : zg zs 35 ≤ 20
  fl : zg zs 36 = 0
  lg : zg zs 37 = lg
  wh : zg zs 38 = wh
  c0 : 0 ≤ zg zs 39
  c1 : zg zs 39 ≤ few
  d0 : -1 ≤ zg zs 40
  d1 : zg zs 40 ≤ 4000000000000
/-- the number is in one of the intervals -/
def covB (zs : List Int) (n : Nat) (i : Int) : Bool := (List.range n).any (fun k => decide (zg zs (k * 2) ≤ i) && decide (i < zg zs (k * 2 + 1)))
theorem covB_iff {zs : List Int} {n : Nat} {i : Int} : covB zs n i = true ↔ ∃ k, k < n ∧ zg zs (k * 2) ≤ i ∧ i < zg zs (k * 2 + 1) := by
  unfold covB
  simp [List.any_eq_true, List.mem_range]
theorem hasB_cov (zs : List Int) (n : Nat) (i : Int) : hasB i (ivs zs n) = covB zs n i := by
  unfold hasB ivs covB
  rw [List.any_map]
  rfl
theorem TkOk.cov_lt {zs : List Int} {n : Nat} {top lg wh few : Int} (h : TkOk zs n top lg wh few) {i : Int} (hc : covB zs n i = true) : 0 ≤ i ∧ i < top := by
  obtain ⟨k, hk, h1, h2⟩ := covB_iff.1 hc
  have := h.rg k hk
  omega
theorem TkOk.not_cov {zs : List Int} {n : Nat} {top lg wh few : Int} (h : TkOk zs n top lg wh few) {i : Int} (hi : top ≤ i) : covB zs n i = false := by
  cases e : covB zs n i with
  | false => rfl
  | true => have := h.cov_lt e; omega
variable {zs : List Int} {n : Nat} {top lg wh few : Int}
/-- the other fields may turn -/
theorem TkOk.rest (h : TkOk zs n top lg wh few) (lg' wh' c d : Int) (hc0 : 0 ≤ c) (hc1 : c ≤ few + 1) (hd0 : -1 ≤ d) (hd1 : d ≤ 4000000000000) :
    TkOk ((((zs.set 37 lg').set 38 wh').set 39 c).set 40 d) n top lg' wh' (few + 1) ∧ ∀ i, covB ((((zs.set 37 lg').set 38 wh').set 39 c).set 40 d) n i = covB zs n i := by
  have hl := h.len
  have e : ∀ j, zg ((((zs.set 37 lg').set 38 wh').set 39 c).set 40 d) j = if 40 = j then d else if 39 = j then c else if 38 = j then wh' else if 37 = j then lg' else zg zs j := fun j => by
    rw [zg_set _ _ _ _ (by simp [hl]), zg_set _ _ _ _ (by simp [hl]), zg_set _ _ _ _ (by simp [hl]), zg_set _ _ _ _ (by simp [hl])]
  have e' : ∀ j, j < 37 → zg ((((zs.set 37 lg').set 38 wh').set 39 c).set 40 d) j = zg zs j := fun j hj => by
    rw [e, if_neg (by omega), if_neg (by omega), if_neg (by omega), if_neg (by omega)]
  have hn := h.le
  refine ⟨⟨by simp [hl], by rw [e' _ (by omega)]; exact h.many, hn, fun k hk => ?_, fun j k hj hk => ?_, fun m hm => by rw [e' _ (by omega)]; exact h.size m hm, h.top0, by rw [e' _ (by omega)]; exact h.dl0, by rw [e' _ (by omega)]; exact h.dl1, by rw [e' _ (by omega)]; exact h.fl,
    by rw [e]; rfl, by rw [e]; rfl, by rw [e]; exact hc0, by rw [e]; exact hc1, by rw [e]; exact hd0, by rw [e]; exact hd1⟩, fun i => ?_⟩
  · rw [e' _ (by omega), e' _ (by omega)]; exact h.rg k hk
  · rw [e' _ (by omega), e' _ (by omega)]; exact h.gap j k hj hk
  · rw [Bool.eq_iff_iff, covB_iff, covB_iff]
    constructor
    · rintro ⟨k, hk, h1, h2⟩
      rw [e' _ (by omega)] at h1 h2
      exact ⟨k, hk, h1, h2⟩
    · rintro ⟨k, hk, h1, h2⟩
      refine ⟨k, hk, ?_, ?_⟩ <;> rw [e' _ (by omega)] <;> assumption
/-- the last interval made longer -/
theorem TkOk.longer {m : Nat} (h : TkOk zs (m + 1) top lg wh few) (pn : Int) (he : zg zs (m * 2 + 1) = pn) (ht : top ≤ pn) :
    TkOk (zs.set (m * 2 + 1) (pn + 1)) (m + 1) (pn + 1) lg wh few ∧ ∀ i, covB (zs.set (m * 2 + 1) (pn + 1)) (m + 1) i = (covB zs (m + 1) i || decide (i = pn)) := by
  have hl := h.len
  have hn := h.le
  have e : ∀ j, zg (zs.set (m * 2 + 1) (pn + 1)) j = if m * 2 + 1 = j then pn + 1 else zg zs j := fun j => zg_set _ _ _ _ (by omega)
  have e' : ∀ j, 34 ≤ j → zg (zs.set (m * 2 + 1) (pn + 1)) j = zg zs j := fun j hj => by rw [e, if_neg (by omega)]
  have hm := h.rg m (by omega)
  have ht0 := h.top0
  have hsz := h.size m rfl
  have ef : ∀ k, zg (zs.set (m * 2 + 1) (pn + 1)) (k * 2) = zg zs (k * 2) := fun k => by rw [e, if_neg (by omega)]
  have et : ∀ k, zg (zs.set (m * 2 + 1) (pn + 1)) (k * 2 + 1) = if k = m then pn + 1 else zg zs (k * 2 + 1) := fun k => by
    rw [e]
    by_cases hk : k = m
    · rw [if_pos hk, if_pos (by omega)]
    · rw [if_neg hk, if_neg (by omega)]
  refine ⟨⟨by simp [hl], by rw [e' _ (by omega)]; exact h.many, hn, fun k hk => ?_, fun j k hj hk => ?_, fun m' hm' => by rw [et, if_pos (by omega)]; omega, by omega, by rw [e' _ (by omega)]; exact h.dl0, by rw [e' _ (by omega)]; exact h.dl1, by rw [e' _ (by omega)]; exact h.fl,
    by rw [e' _ (by omega)]; exact h.lg, by rw [e' _ (by omega)]; exact h.wh, by rw [e' _ (by omega)]; exact h.c0, by rw [e' _ (by omega)]; exact h.c1, by rw [e' _ (by omega)]; exact h.d0, by rw [e' _ (by omega)]; exact h.d1⟩, fun i => ?_⟩
  · rw [ef, et]
    have := h.rg k hk
    by_cases hk2 : k = m
    · subst hk2; rw [if_pos rfl]; omega
    · rw [if_neg hk2]; omega
  · rw [ef, et, if_neg (by omega)]
    exact h.gap j k hj hk
  · rw [Bool.eq_iff_iff, Bool.or_eq_true, covB_iff, covB_iff, decide_eq_true_eq]
    constructor
    · rintro ⟨k, hk, h1, h2⟩
      rw [ef] at h1
      rw [et] at h2
      by_cases hk2 : k = m
      · subst hk2
        rw [if_pos rfl] at h2
        by_cases hi : i = pn
        · exact .inr hi
        · exact .inl ⟨k, hk, h1, by omega⟩
      · rw [if_neg hk2] at h2
        exact .inl ⟨k, hk, h1, h2⟩
    · rintro (⟨k, hk, h1, h2⟩ | rfl)
      · refine ⟨k, hk, by rw [ef]; exact h1, ?_⟩
        rw [et]
        by_cases hk2 : k = m
        · subst hk2; rw [if_pos rfl]; omega
        · rw [if_neg hk2]; exact h2
      · refine ⟨m, by omega, by rw [ef]; omega, by rw [et, if_pos rfl]; omega⟩
/-- a new interval -/
theorem TkOk.more (h : TkOk zs n top lg wh few) (pn : Int) (hp : 0 ≤ pn) (ht : top ≤ pn) (hl2 : ∀ k, k < n → zg zs (k * 2 + 1) < pn) (hn16 : n < 16) :
    TkOk (((zs.set (n * 2) pn).set (n * 2 + 1) (pn + 1)).set 34 ((n : Int) + 1)) (n + 1) (pn + 1) lg wh few ∧ ∀ i, covB (((zs.set (n * 2) pn).set (n * 2 + 1) (pn + 1)).set 34 ((n : Int) + 1)) (n + 1) i = (covB zs n i || decide (i = pn)) := by
  have hl := h.len
  have e : ∀ j, zg (((zs.set (n * 2) pn).set (n * 2 + 1) (pn + 1)).set 34 ((n : Int) + 1)) j = if 34 = j then (n : Int) + 1 else if n * 2 + 1 = j then pn + 1 else if n * 2 = j then pn else zg zs j := fun j => by
    rw [zg_set _ _ _ _ (by simp [hl]), zg_set _ _ _ _ (by simp [hl]; omega), zg_set _ _ _ _ (by omega)]
  have e' : ∀ j, 35 ≤ j → zg (((zs.set (n * 2) pn).set (n * 2 + 1) (pn + 1)).set 34 ((n : Int) + 1)) j = zg zs j := fun j hj => by rw [e, if_neg (by omega), if_neg (by omega), if_neg (by omega)]
  have ef : ∀ k, k ≤ n → zg (((zs.set (n * 2) pn).set (n * 2 + 1) (pn + 1)).set 34 ((n : Int) + 1)) (k * 2) = if k = n then pn else zg zs (k * 2) := fun k hk => by
    rw [e, if_neg (by omega), if_neg (by omega)]
    by_cases h2 : k = n
    · rw [if_pos h2, if_pos (by omega)]
    · rw [if_neg h2, if_neg (by omega)]
  have et : ∀ k, k ≤ n → zg (((zs.set (n * 2) pn).set (n * 2 + 1) (pn + 1)).set 34 ((n : Int) + 1)) (k * 2 + 1) = if k = n then pn + 1 else zg zs (k * 2 + 1) := fun k hk => by
    rw [e, if_neg (by omega)]
    by_cases h2 : k = n
    · rw [if_pos h2, if_pos (by omega)]
    · rw [if_neg h2, if_neg (by omega), if_neg (by omega)]
  have ht0 := h.top0
  have hsz2 : 2 * (n : Int) ≤ pn := by
    rcases Nat.eq_zero_or_pos n with h0 | h0
    · omega
    · have h1 := h.size (n - 1) (by omega)
      have h2 := hl2 (n - 1) (by omega)
      omega
  refine ⟨⟨by simp [hl], by rw [e]; simp, by omega, fun k hk => ?_, fun j k hj hk => ?_, fun m' hm' => by rw [et m' (by omega), if_pos (by omega)]; push_cast; omega, by omega, by rw [e' _ (by omega)]; exact h.dl0, by rw [e' _ (by omega)]; exact h.dl1, by rw [e' _ (by omega)]; exact h.fl,
    by rw [e' _ (by omega)]; exact h.lg, by rw [e' _ (by omega)]; exact h.wh, by rw [e' _ (by omega)]; exact h.c0, by rw [e' _ (by omega)]; exact h.c1, by rw [e' _ (by omega)]; exact h.d0, by rw [e' _ (by omega)]; exact h.d1⟩, fun i => ?_⟩
  · rw [ef k (by omega), et k (by omega)]
    by_cases hk2 : k = n
    · rw [if_pos hk2, if_pos hk2]; omega
    · rw [if_neg hk2, if_neg hk2]
      have := h.rg k (by omega)
      omega
  · rw [ef k (by omega), et j (by omega), if_neg (by omega)]
    by_cases hk2 : k = n
    · rw [if_pos hk2]; exact hl2 j (by omega)
    · rw [if_neg hk2]; exact h.gap j k hj (by omega)
  · rw [Bool.eq_iff_iff, Bool.or_eq_true, covB_iff, covB_iff, decide_eq_true_eq]
    constructor
    · rintro ⟨k, hk, h1, h2⟩
      rw [ef k (by omega)] at h1
      rw [et k (by omega)] at h2
      by_cases hk2 : k = n
      · rw [if_pos hk2] at h1 h2
        exact .inr (by omega)
      · rw [if_neg hk2] at h1 h2
        exact .inl ⟨k, by omega, h1, h2⟩
    · rintro (⟨k, hk, h1, h2⟩ | rfl)
      · exact ⟨k, by omega, by rw [ef k (by omega), if_neg (by omega)]; exact h1, by rw [et k (by omega), if_neg (by omega)]; exact h2⟩
      · exact ⟨n, by omega, by rw [ef n (by omega), if_pos rfl]; omega, by rw [et n (by omega), if_pos rfl]; omega⟩
end Go.Proofs.YtpfkeohaaeiaaaaGreat
/- Law 13: Receive (numbers in order) and New of a Tracker. -/
namespace Go.Proofs.YtpfkeohaaeiaaaaGreat
open Go.RowKit Go.Sort
variable {zs : List Int} {n : Nat} {top lg wh few : Int}
/-- the intervals with one number more -/
def AddOk (zs : List Int) (n t : Nat) (pn lg wh few : Int) (w w' : World) : Prop :=
  ∃ zs' n', TkAt w' t zs' ∧ TkOk zs' n' (pn + 1) lg wh few ∧ (∀ i, covB zs' n' i = (covB zs n i || decide (i = pn))) ∧ Tu t t w w'
theorem add_any (t : Nat) (pn : Int) (w : World) (hT : TkAt w t zs) (ok : TkOk zs n top lg wh few) (hp : top ≤ pn) (hp2 : pn < 31) : Calls Tryz.prog 27 #[.pointer (some ⟨t, 0, none⟩), .int .i64 pn] w fun e w' => e = .returned (.tuple #[]) ∧ AddOk zs n t pn lg wh few w w' := by
  have ht0 := ok.top0
  rcases Nat.eq_zero_or_pos n with h0 | h0
  · subst h0
    refine (add_new t 0 zs pn w hT (by decide) ok.many (fun k hk => by omega) (by omega) (by omega)).mono ?_
    rintro e w' ⟨rfl, h1, h2⟩
    obtain ⟨k1, k2⟩ := ok.more pn (by omega) hp (fun k hk => by omega) (by decide)
    exact ⟨rfl, _, _, h1, k1, k2, h2⟩
  · obtain ⟨m, rfl⟩ : ∃ m, n = m + 1 := ⟨n - 1, by omega⟩
    have hm := ok.rg m (by omega)
    by_cases he : zg zs (m * 2 + 1) = pn
    · refine (add_end t m zs pn w hT (by have := ok.le; omega) ok.many (fun k hk => ?_) he (by omega) (by omega)).mono ?_
      · have := ok.gap k m hk (by omega)
        show zg zs _ < pn
        omega
      · rintro e w' ⟨rfl, h1, h2⟩
        obtain ⟨k1, k2⟩ := ok.longer pn he hp
        exact ⟨rfl, _, _, h1, k1, k2, h2⟩
    · have hall : ∀ k, k < m + 1 → zg zs (k * 2 + 1) < pn := fun k hk => by
        by_cases h2 : k = m
        · subst h2; omega
        · have := ok.gap k m (by omega) (by omega); omega
      have hsz := ok.size m rfl
      have hl1 := hall m (by omega)
      refine (add_new t (m + 1) zs pn w hT (by omega) ok.many hall (by omega) (by omega)).mono ?_
      rintro e w' ⟨rfl, h1, h2⟩
      obtain ⟨k1, k2⟩ := ok.more pn (by omega) hp hall (by omega)
      exact ⟨rfl, _, _, h1, k1, k2, h2⟩
theorem TkAt.zg {w : World} {t : Nat} (h : TkAt w t zs) (i : Nat) (hi : i < 41) {x : Int} (hx : zg zs i = x) : w.cell? ⟨t, i, none⟩ = some (.int .i64 x) := by
  rw [← hx]; exact h.cell i hi
/-- what Receive does -/
def RecvOk (zs : List Int) (n t : Nat) (pn now few : Int) (w : World) (e : Ending) (w' : World) : Prop :=
  e = .returned (.int .i64 0) ∧ AddOk zs n t pn pn now (few + 1) w w'
theorem rest_add {t : Nat} {pn now few : Int} {w w2 w' : World} {zs2 : List Int} {n2 : Nat} {lg wh : Int} (hcov : ∀ i, covB zs2 n2 i = (covB zs n i || decide (i = pn))) (ok2 : TkOk zs2 n2 (pn + 1) lg wh few) (ht2 : Tu t t w w2) (ht3 : Tu t t w2 w')
    (c d : Int) (hT : TkAt w' t ((((zs2.set 37 pn).set 38 now).set 39 c).set 40 d)) (hc0 : 0 ≤ c) (hc1 : c ≤ zg zs2 39 + 1) (hd0 : -1 ≤ d) (hd1 : d ≤ 4000000000000) : AddOk zs n t pn pn now (few + 1) w w' := by
  obtain ⟨k1, k2⟩ := ok2.rest pn now c d hc0 (by have := ok2.c1; omega) hd0 hd1
  exact ⟨_, _, hT, k1, fun i => (k2 i).trans (hcov i), ht2.trans ht3⟩
set_option maxRecDepth 100000 in
set_option maxHeartbeats 4000000 in
theorem recv_any (t : Nat) (now pn : Int) (w : World) (hT : TkAt w t zs) (ok : TkOk zs n top lg wh few) (hp : top ≤ pn) (hp2 : pn < 31) (hlg0 : -1 ≤ lg) (hlg : lg < pn) (hn1 : 0 ≤ now) (hn2 : now ≤ 1099511627776) (hfew : few ≤ 1000000000) :
    Calls Tryz.prog 12 #[.pointer (some ⟨t, 0, none⟩), .int .i64 now, .int .i64 pn, .bool true] w (RecvOk zs n t pn now few w) := by
  have ht0 := ok.top0
  have P58 := Lib.hid (has_any t n zs pn w hT (by have := ok.le; omega) ok.many)
  have HF := Lib.hid (show hasB pn (ivs zs n) = false from (hasB_cov zs n pn).trans (ok.not_cov hp))
  have y36 := hT.zg 36 (by decide) ok.fl
  have H0 := Lib.hid (And.intro hT ok)
  clear hT ok
  have a1 : (now < 0) = False := eq_false (by omega)
  have a2 : (1099511627776 < now) = False := eq_false (by omega)
  have a3 : (pn < 0) = False := eq_false (by omega)
  have a4 : (281474976710655 < pn) = False := eq_false (by omega)
  go_enter Tryz.func12, Tryz.ntmps12
  go_wp2_with fail
  refine P58.out.mono ?_
  rintro e w1 ⟨rfl, hb⟩
  rw [HF.out]
  have T1 := Lib.hid (And.intro (H0.out.1.block (hb.block t H0.out.1.lt)) hb)
  clear hb y36
  go_wp2_with fail
  refine (add_any t pn w1 T1.out.1 H0.out.2 hp hp2).mono ?_
  rintro e w2 ⟨rfl, zs2, n2, T2, ok2, hcov, ht2⟩
  have y34 := T2.zg 34 (by decide) ok2.many
  have y37 := T2.zg 37 (by decide) ok2.lg
  have z37 := T2.frozen 37
  have z38 := T2.frozen 38
  have y38 := T2.zg 38 (by decide) ok2.wh
  have hn16 := ok2.le
  have a5 : (16 < (n2 : Int)) = False := eq_false (by omega)
  have H2 := Lib.hid (And.intro T2 (And.intro ok2 (And.intro hcov ((Tu.below T1.out.2).trans ht2))))
  clear T2 ok2 hcov ht2 T1 H0 P58 HF
  have ST : ∀ od, Hid (Calls Tryz.prog 29 #[.pointer (some ⟨t, 0, none⟩), .int .i64 now, .bool od] ((w2.setCell ⟨t, 37, none⟩ (.int .i64 pn)).setCell ⟨t, 38, none⟩ (.int .i64 now)) fun e w' => e = .returned (.tuple #[]) ∧ AddOk zs n t pn pn now (few + 1) w w') := fun od => by
    obtain ⟨T2, ok2, hcov, ht2⟩ := H2.out
    have e : ∀ j, 39 ≤ j ∨ j = 35 → ((zs2.set 37 pn).set 38 now)[j]?.getD (0:Int) = zg zs2 j := fun j hj => by
      show zg _ j = _
      rw [zg_set _ _ _ _ (by simp [ok2.len]), zg_set _ _ _ _ (by simp [ok2.len]), if_neg (by omega), if_neg (by omega)]
    refine Lib.hid ((sched_any t ((zs2.set 37 pn).set 38 now) now od _ ((T2.set 37 pn).set 38 now) _ (e 35 (.inr rfl)) ok2.dl0 ok2.dl1 _ (e 39 (.inl (by decide))) ok2.c0 (by have := ok2.c1; omega) _ (e 40 (.inl (by decide))) ok2.d0 ok2.d1 hn1 hn2).mono ?_)
    rintro e1 w' ⟨rfl, c, d, h1, h2, h3, h4, h5, h6⟩
    rw [e 39 (.inl (by decide))] at h3
    exact ⟨rfl, rest_add hcov ok2 ht2 (((Tu.set _ _ _).trans (Tu.set _ _ _)).trans h6) c d h1 h2 h3 h4 h5⟩
  by_cases hl : lg = -1
  · subst hl
    have ST := (ST true)
    go_wp2_with fail
    refine ST.out.mono ?_
    rintro e w3 ⟨rfl, h⟩
    have H3 := Lib.hid h
    clear h ST
    go_wp2
    go_ret
    exact ⟨rfl, H3.out⟩
  · have hl' : (lg == -1) = false := beq_eq_false_iff_ne.2 hl
    clear hl
    by_cases hq : pn = lg + 1
    · have hq' : (pn == lg + 1) = true := by rw [hq]; simp
      have ST := (ST true)
      clear hq
      go_wp2_with fail
      refine ST.out.mono ?_
      rintro e w3 ⟨rfl, h⟩
      have H3 := Lib.hid h
      clear h ST
      go_wp2
      go_ret
      exact ⟨rfl, H3.out⟩
    · have hq' : (pn == lg + 1) = false := beq_eq_false_iff_ne.2 hq
      have ST := (ST false)
      clear hq
      go_wp2_with fail
      refine ST.out.mono ?_
      rintro e w3 ⟨rfl, h⟩
      have H3 := Lib.hid h
      clear h ST
      go_wp2
      go_ret
      exact ⟨rfl, H3.out⟩
/-- a new Tracker -/
def zs0 (dl : Int) : List Int := (List.replicate 35 0) ++ [dl, 0, -1, 0, 0, -1]
theorem zs0_ok (dl : Int) (h0 : 0 ≤ dl) (h1 : dl ≤ 20) : TkOk (zs0 dl) 0 0 (-1) 0 0 := by
  refine ⟨rfl, rfl, by decide, fun k hk => by omega, fun j k _ hk => by omega, fun m hm => by omega, by decide, h0, h1, rfl, rfl, rfl, (show (0:Int) ≤ 0 by decide), (show (0:Int) ≤ 0 by decide), (show (-1:Int) ≤ -1 by decide), (show (-1:Int) ≤ 4000000000000 by decide)⟩
set_option maxRecDepth 100000 in
set_option maxHeartbeats 4000000 in
theorem new_tr (dl : Int) (h0 : 0 ≤ dl) (h1 : dl ≤ 20) (w : World) : Calls Tryz.prog 8 #[.int .i64 dl] w fun e w' => e = .returned (.tuple #[.pointer (some ⟨w.heap.size, 0, none⟩), .int .i64 0]) ∧ w' = w.alloc (.cells ((zs0 dl).map (Value.int .i64)).toArray 70) := by
  have a1 : (dl < 0) = False := eq_false (by omega)
  have a2 : (20 < dl) = False := eq_false (by omega)
  go_enter Tryz.func8, Tryz.ntmps8
  go_wp2
  go_ret2
  exact ⟨rfl, rfl⟩
end Go.Proofs.YtpfkeohaaeiaaaaGreat
/- Law 13: add of a Tracker, where the number lies below the last interval; remove of the last interval. -/
namespace Go.Proofs.YtpfkeohaaeiaaaaGreat
open Go.RowKit Go.Sort
set_option maxRecDepth 100000 in
set_option maxHeartbeats 4000000 in
/-- the last interval begins just behind the number: it is made longer to the front -/
theorem add_front (t m : Nat) (zs : List Int) (pn : Int) (w : World) (hT : TkAt w t zs) (hm : m ≤ 15) (hz : zs[34]?.getD (0:Int) = ((m + 1 : Nat):Int)) (hl : ∀ k, k < m → zs[k * 2 + 1]?.getD 0 < pn) (hf : zs[m * 2]?.getD 0 = pn + 1) (he : pn < zs[m * 2 + 1]?.getD 0) (h0 : 0 ≤ pn) (h1 : pn ≤ 281474976710656) :
    Calls Tryz.prog 27 #[.pointer (some ⟨t, 0, none⟩), .int .i64 pn] w (AddPost (zs.set (m * 2) pn) t w) := by
  have P := Lib.hid (place_any t (m + 1) zs pn w hT (by omega) hz)
  have HT := Lib.hid (And.intro hT (And.intro hz (And.intro hl (And.intro hf he))))
  clear hT hz hl he hf
  go_enter Tryz.func27, Tryz.ntmps27
  go_wp2_with fail
  refine P.out.mono ?_
  rintro e w1 ⟨k, hk, rfl, hlow, hat, hb⟩
  have ek : k = m := by
    rcases Nat.lt_trichotomy k m with h | h | h
    · have := hat (by omega); have := HT.out.2.2.1 k h; omega
    · exact h
    · have := lowB_at hlow m h; have := HT.out.2.2.2.2; omega
  subst ek
  have T1 := HT.out.1.block (hb.block t HT.out.1.lt)
  have y34 := T1.cell 34 (by decide)
  have y0 := T1.cell (k * 2) (by omega)
  have y1 := T1.cell (k * 2 + 1) (by omega)
  have z0 := T1.frozen (k * 2)
  rw [HT.out.2.1] at y34
  rw [HT.out.2.2.2.1] at y0
  have he := HT.out.2.2.2.2
  generalize zs[k * 2 + 1]?.getD 0 = q at *
  have HB := Lib.hid (And.intro T1 hb)
  have i1 : (0 : Int) ≤ (k : Int) := by omega
  have i2 : (k : Int) < ((k + 1 : Nat) : Int) := by omega
  have i5 : (k : Int) < 17 := by omega
  have i6 : (q == pn) = false := beq_eq_false_iff_ne.2 (by omega)
  have i7 : IntKind.i64.wrap (pn + 1) = pn + 1 := IntWalk.i64_in _ (by omega)
  have i8 : IntKind.i64.wrap (pn + 1 - 1) = pn := by rw [IntWalk.i64_in _ (by omega)]; omega
  clear hlow hat hb T1 he
  go_wp2
  go_still_tail 12, (by kernel_rfl)
  have T2 : TkAt ((w1.setCell ⟨t, k * 2, none⟩ (.int .i64 pn)).drew) t (zs.set (k * 2) pn) := HB.out.1.set _ _
  have H2 := Lib.hid (And.intro T2 (show Tu t t w ((w1.setCell ⟨t, k * 2, none⟩ (.int .i64 pn)).drew) from ((Tu.below HB.out.2).trans (Tu.set _ _ _)).drew))
  clear T2
  go_wp2
  go_returns
  exact ⟨rfl, H2.out.1, H2.out.2⟩
theorem slice_tail (t k n : Nat) (w : World) (hk : k ≤ 16) (hn : n ≤ 17) (hkn : k ≤ n) : (Instr.sliceAt 66 (.pointer (some ⟨t, 0, none⟩)) (some (.int .i64 k)) (some (.int .i64 n)) none).run Tryz.prog w = .ok (.slice (some ⟨t, k * 2, none⟩) (n - k) (17 - k)) w := by
  have i6 : (k : Int) ≤ (n : Int) := by omega
  have i7 : ¬ 17 = k := by omega
  have i8 : (n : Int) ≤ 17 := by omega
  simp [go_sem, i6, i7, i8]
set_option maxRecDepth 100000 in
set_option maxHeartbeats 4000000 in
/-- the last interval is removed -/
theorem remove_last (t m : Nat) (zs : List Int) (w : World) (hT : TkAt w t zs) (hm : m ≤ 15) (hz : zs[34]?.getD (0:Int) = ((m + 1 : Nat):Int)) :
    Calls Tryz.prog 28 #[.pointer (some ⟨t, 0, none⟩), .int .i64 m] w (AddPost (zs.set 34 (m : Int)) t w) := by
  have HT := Lib.hid (And.intro hT hz)
  have y34 := hT.cell 34 (by decide)
  rw [hz, Int.natCast_succ] at y34
  clear hT hz
  have i1 : (0 : Int) ≤ (m : Int) := by omega
  have i2 : (m : Int) ≤ 17 := by omega
  have i3 : IntKind.i64.wrap ((m : Int) + 1) = (m : Int) + 1 := IntWalk.i64_in _ (by omega)
  have hsl : ∀ w, (Instr.sliceAt 66 (.pointer (some ⟨t, 0, none⟩)) (some (.int .i64 ((m : Int) + 1))) (some (.int .i64 ((m : Int) + 1))) none).run Tryz.prog w = .ok (.slice (some ⟨t, (m + 1) * 2, none⟩) 0 (17 - (m + 1))) w := fun w => by
    have := slice_tail t (m + 1) (m + 1) w (by omega) (by omega) (by omega)
    rwa [Nat.sub_self, Int.natCast_succ] at this
  obtain ⟨dp, dn, hsl2⟩ : ∃ dp n, ∀ w, (Instr.sliceAt 66 (.pointer (some ⟨t, 0, none⟩)) (some (.int .i64 (m : Int))) none none).run Tryz.prog w = .ok (.slice dp n n) w := ⟨_, _, fun w => by simp [go_sem, i2, i1]; exact ⟨rfl, rfl⟩⟩
  go_enter Tryz.func28, Tryz.ntmps28
  go_wp2_with fail
  go_still_tail 15, (by kernel_rfl)
  refine wpList_copy_noneS rfl (.tmp 8) (.tmp 18) 41 41 rfl 54 Tryz.underlying41 (by kernel_rfl) dp (some ⟨t, (m + 1) * 2, none⟩) dn dn 0 (16 - m) rfl rfl (by simp) ?_
  have T2 : TkAt w t zs := HT.out.1
  have H2 := Lib.hid (And.intro (show TkAt w.drew t zs from T2) (show Tu t t w w.drew from (Tu.refl _ _ _).drew))
  have z34 := T2.frozen 34
  have i4 : IntKind.i64.wrap ((m : Int) + 1 - 1) = (m : Int) := by rw [IntWalk.i64_in _ (by omega)]; omega
  clear T2 hsl hsl2
  go_wp2
  go_returns
  exact ⟨rfl, H2.out.1.set _ _, H2.out.2.trans (Tu.set _ _ _)⟩
set_option maxRecDepth 100000 in
set_option maxHeartbeats 4000000 in
/-- the number fills the gap between the last two intervals -/
theorem add_merge (t m : Nat) (zs : List Int) (pn q : Int) (w : World) (hT : TkAt w t zs) (hm : m ≤ 14) (hz : zs[34]?.getD (0:Int) = ((m + 2 : Nat):Int)) (hl : ∀ k, k < m → zs[k * 2 + 1]?.getD 0 < pn) (he : zs[m * 2 + 1]?.getD 0 = pn) (hf : zs[(m + 1) * 2]?.getD 0 = pn + 1) (hq : zs[(m + 1) * 2 + 1]?.getD 0 = q) (_hpq : pn < q) (h0 : 0 ≤ pn) (h1 : pn ≤ 281474976710656) :
    Calls Tryz.prog 27 #[.pointer (some ⟨t, 0, none⟩), .int .i64 pn] w (AddPost ((zs.set (m * 2 + 1) q).set 34 ((m : Int) + 1)) t w) := by
  have P := Lib.hid (place_any t (m + 2) zs pn w hT (by omega) hz)
  have HT := Lib.hid (And.intro hT (And.intro hz (And.intro hl (And.intro he (And.intro hf hq)))))
  clear hT hz hl he hf hq
  go_enter Tryz.func27, Tryz.ntmps27
  go_wp2_with fail
  refine P.out.mono ?_
  rintro e w1 ⟨k, hk, rfl, hlow, hat, hb⟩
  have ek : k = m := by
    rcases Nat.lt_trichotomy k m with h | h | h
    · have := hat (by omega); have := HT.out.2.2.1 k h; omega
    · exact h
    · have := lowB_at hlow m h; have := HT.out.2.2.2.1; omega
  subst ek
  have T1 := HT.out.1.block (hb.block t HT.out.1.lt)
  have y34 := T1.cell 34 (by decide)
  have y1 := T1.cell (k * 2 + 1) (by omega)
  have z1 := T1.frozen (k * 2 + 1)
  rw [HT.out.2.1] at y34
  rw [HT.out.2.2.2.1] at y1
  have HB := Lib.hid (And.intro T1 hb)
  have i1 : (0 : Int) ≤ (k : Int) := by omega
  have i2 : (k : Int) < ((k + 2 : Nat) : Int) := by omega
  clear hlow hat hb T1
  have i5 : (k : Int) < 17 := by omega
  go_wp2
  go_still_tail 12, (by kernel_rfl)
  have T2 : TkAt ((w1.setCell ⟨t, k * 2 + 1, none⟩ (.int .i64 (pn + 1))).drew) t (zs.set (k * 2 + 1) (pn + 1)) := HB.out.1.set _ _
  have y35 := T2.cell 34 (by decide)
  rw [List.getElem?_set_ne (by omega), HT.out.2.1, show ((k + 2 : Nat) : Int) = (k : Int) + 2 from rfl] at y35
  have y2 := T2.cell (k * 2 + 1) (by omega)
  rw [List.getElem?_set_self (by rw [HT.out.1.1]; omega), Option.getD_some] at y2
  have y3 := T2.cell ((k + 1) * 2) (by omega)
  rw [List.getElem?_set_ne (by omega), HT.out.2.2.2.2.1] at y3
  have y4 := T2.cell ((k + 1) * 2 + 1) (by omega)
  rw [List.getElem?_set_ne (by omega), HT.out.2.2.2.2.2] at y4
  have z2 := T2.frozen (k * 2 + 1)
  have H2 := Lib.hid (And.intro T2 (show Tu t t w ((w1.setCell ⟨t, k * 2 + 1, none⟩ (.int .i64 (pn + 1))).drew) from ((Tu.below HB.out.2).trans (Tu.set _ _ _)).drew))
  clear T2
  go_wp2
  clear y34 y1 z1 HB
  generalize (w1.setCell _ _).drew = W1 at *
  have i3 : decide ((k : Int) + 1 < (k : Int) + 2) = true := decide_eq_true (by omega)
  have i4 : IntKind.i64.wrap ((k : Int) + 1) = (k : Int) + 1 := IntWalk.i64_in _ (by omega)
  have i6 : (k : Int) + 1 < 17 := by omega
  have i7 : (0 : Int) ≤ (k : Int) + 1 := by omega
  have i8 : ((k : Int) + 1).toNat = k + 1 := by omega
  go_quiet (fail)
  go_wp2
  generalize hW2 : World.drewN _ _ = W2
  have K2 := Lib.hid (show TkAt W2 t (zs.set (k * 2 + 1) (pn + 1)) ∧ Tu t t w W2 from hW2 ▸ And.intro H2.out.1 (H2.out.2.drewN _))
  have x3 : W2.cell? ⟨t, (k + 1) * 2, none⟩ = some (.int .i64 (pn + 1)) := hW2 ▸ y3
  have x4 : W2.cell? ⟨t, (k + 1) * 2 + 1, none⟩ = some (.int .i64 q) := hW2 ▸ y4
  have x2 : W2.cell? ⟨t, k * 2 + 1, none⟩ = some (.int .i64 (pn + 1)) := hW2 ▸ y2
  have v2 : W2.frozen? ⟨t, k * 2 + 1, none⟩ = false := hW2 ▸ z2
  clear hW2 y2 y3 y4 y35 z2 H2
  go_still_tail 14, (by kernel_rfl)
  have T3 : TkAt ((W2.setCell ⟨t, k * 2 + 1, none⟩ (.int .i64 q)).drew) t (zs.set (k * 2 + 1) q) := by
    have := K2.out.1.set (k * 2 + 1) q
    rw [List.set_set] at this
    exact this
  have K3 := Lib.hid (And.intro T3 (show Tu t t w ((W2.setCell ⟨t, k * 2 + 1, none⟩ (.int .i64 q)).drew) from (K2.out.2.trans (Tu.set _ _ _)).drew))
  clear T3 x3 x4 K2
  go_wp2_with fail
  refine (remove_last t (k + 1) (zs.set (k * 2 + 1) q) _ K3.out.1 (by omega) (by rw [List.getElem?_set_ne (by omega)]; exact HT.out.2.1)).mono ?_
  rintro e w5 ⟨rfl, h1, h2⟩
  have H5 := Lib.hid (And.intro h1 (K3.out.2.trans h2))
  clear h1 h2 K3 x2 v2
  go_wp2
  go_returns
  exact ⟨rfl, H5.out.1, H5.out.2⟩
end Go.Proofs.YtpfkeohaaeiaaaaGreat
/- Law 13: a Tracker that receives numbers nearly in order: plain data; Receive. -/
namespace Go.Proofs.YtpfkeohaaeiaaaaGreat
open Go.RowKit Go.Sort
variable {zs : List Int} {n : Nat} {top lg wh few : Int}
/-- the last interval made longer to the front -/
theorem TkOk.front {m : Nat} (h : TkOk zs (m + 1) top lg wh few) (pn : Int) (h0 : 0 ≤ pn) (hf : zg zs (m * 2) = pn + 1) (hl : ∀ k, k < m → zg zs (k * 2 + 1) < pn) :
    TkOk (zs.set (m * 2) pn) (m + 1) top lg wh few ∧ ∀ i, covB (zs.set (m * 2) pn) (m + 1) i = (covB zs (m + 1) i || decide (i = pn)) := by
  have hlen := h.len
  have hn := h.le
  have e : ∀ j, zg (zs.set (m * 2) pn) j = if m * 2 = j then pn else zg zs j := fun j => zg_set _ _ _ _ (by omega)
  have e' : ∀ j, 34 ≤ j → zg (zs.set (m * 2) pn) j = zg zs j := fun j hj => by rw [e, if_neg (by omega)]
  have et : ∀ k, zg (zs.set (m * 2) pn) (k * 2 + 1) = zg zs (k * 2 + 1) := fun k => by rw [e, if_neg (by omega)]
  have ef : ∀ k, zg (zs.set (m * 2) pn) (k * 2) = if k = m then pn else zg zs (k * 2) := fun k => by
    rw [e]
    by_cases hk : k = m
    · rw [if_pos hk, if_pos (by omega)]
    · rw [if_neg hk, if_neg (by omega)]
  have hm := h.rg m (by omega)
  refine ⟨⟨by simp [hlen], by rw [e' _ (by omega)]; exact h.many, hn, fun k hk => ?_, fun j k hj hk => ?_, fun m' hm' => by rw [et]; exact h.size m' hm', h.top0, by rw [e' _ (by omega)]; exact h.dl0, by rw [e' _ (by omega)]; exact h.dl1, by rw [e' _ (by omega)]; exact h.fl,
    by rw [e' _ (by omega)]; exact h.lg, by rw [e' _ (by omega)]; exact h.wh, by rw [e' _ (by omega)]; exact h.c0, by rw [e' _ (by omega)]; exact h.c1, by rw [e' _ (by omega)]; exact h.d0, by rw [e' _ (by omega)]; exact h.d1⟩, fun i => ?_⟩
  · rw [ef, et]
    have := h.rg k hk
    by_cases hk2 : k = m
    · subst hk2; rw [if_pos rfl]; omega
    · rw [if_neg hk2]; omega
  · rw [ef, et]
    by_cases hk2 : k = m
    · subst hk2; rw [if_pos rfl]; exact hl j hj
    · rw [if_neg hk2]; exact h.gap j k hj hk
  · rw [Bool.eq_iff_iff, Bool.or_eq_true, covB_iff, covB_iff, decide_eq_true_eq]
    constructor
    · rintro ⟨k, hk, h1, h2⟩
      rw [ef] at h1
      rw [et] at h2
      by_cases hk2 : k = m
      · subst hk2
        rw [if_pos rfl] at h1
        by_cases hi : i = pn
        · exact .inr hi
        · exact .inl ⟨k, hk, by omega, h2⟩
      · rw [if_neg hk2] at h1
        exact .inl ⟨k, hk, h1, h2⟩
    · rintro (⟨k, hk, h1, h2⟩ | rfl)
      · refine ⟨k, hk, ?_, by rw [et]; exact h2⟩
        rw [ef]
        by_cases hk2 : k = m
        · subst hk2; rw [if_pos rfl]; omega
        · rw [if_neg hk2]; exact h1
      · exact ⟨m, by omega, by rw [ef, if_pos rfl]; omega, by rw [et]; omega⟩
/-- the last two intervals made one -/
theorem TkOk.merge {m : Nat} (h : TkOk zs (m + 2) top lg wh few) (pn q : Int) (he : zg zs (m * 2 + 1) = pn) (hf : zg zs ((m + 1) * 2) = pn + 1) (hq : zg zs ((m + 1) * 2 + 1) = q) :
    TkOk ((zs.set (m * 2 + 1) q).set 34 ((m : Int) + 1)) (m + 1) top lg wh few ∧ ∀ i, covB ((zs.set (m * 2 + 1) q).set 34 ((m : Int) + 1)) (m + 1) i = (covB zs (m + 2) i || decide (i = pn)) := by
  have hlen := h.len
  have hn := h.le
  have e : ∀ j, zg ((zs.set (m * 2 + 1) q).set 34 ((m : Int) + 1)) j = if 34 = j then (m : Int) + 1 else if m * 2 + 1 = j then q else zg zs j := fun j => by
    rw [zg_set _ _ _ _ (by simp [hlen]), zg_set _ _ _ _ (by omega)]
  have e' : ∀ j, 35 ≤ j → zg ((zs.set (m * 2 + 1) q).set 34 ((m : Int) + 1)) j = zg zs j := fun j hj => by rw [e, if_neg (by omega), if_neg (by omega)]
  have ef : ∀ k, k ≤ m → zg ((zs.set (m * 2 + 1) q).set 34 ((m : Int) + 1)) (k * 2) = zg zs (k * 2) := fun k hk => by rw [e, if_neg (by omega), if_neg (by omega)]
  have et : ∀ k, k ≤ m → zg ((zs.set (m * 2 + 1) q).set 34 ((m : Int) + 1)) (k * 2 + 1) = if k = m then q else zg zs (k * 2 + 1) := fun k hk => by
    rw [e, if_neg (by omega)]
    by_cases h2 : k = m
    · rw [if_pos h2, if_pos (by omega)]
    · rw [if_neg h2, if_neg (by omega)]
  have hm := h.rg m (by omega)
  have hm1 := h.rg (m + 1) (by omega)
  have hsz := h.size (m + 1) rfl
  refine ⟨⟨by simp [hlen], by rw [e]; simp, by omega, fun k hk => ?_, fun j k hj hk => ?_, fun m' hm' => by rw [et m' (by omega), if_pos (by omega)]; rw [hq] at hsz; push_cast at hsz ⊢; omega, h.top0, by rw [e' _ (by omega)]; exact h.dl0, by rw [e' _ (by omega)]; exact h.dl1, by rw [e' _ (by omega)]; exact h.fl,
    by rw [e' _ (by omega)]; exact h.lg, by rw [e' _ (by omega)]; exact h.wh, by rw [e' _ (by omega)]; exact h.c0, by rw [e' _ (by omega)]; exact h.c1, by rw [e' _ (by omega)]; exact h.d0, by rw [e' _ (by omega)]; exact h.d1⟩, fun i => ?_⟩
  · rw [ef k (by omega), et k (by omega)]
    by_cases hk2 : k = m
    · subst hk2; rw [if_pos rfl]; omega
    · rw [if_neg hk2]; exact h.rg k (by omega)
  · rw [ef k (by omega), et j (by omega), if_neg (by omega)]
    exact h.gap j k hj (by omega)
  · rw [Bool.eq_iff_iff, Bool.or_eq_true, covB_iff, covB_iff, decide_eq_true_eq]
    constructor
    · rintro ⟨k, hk, h1, h2⟩
      rw [ef k (by omega)] at h1
      rw [et k (by omega)] at h2
      by_cases hk2 : k = m
      · subst hk2
        rw [if_pos rfl] at h2
        by_cases hi : i = pn
        · exact .inr hi
        · by_cases hi2 : i < pn
          · exact .inl ⟨k, by omega, h1, by omega⟩
          · exact .inl ⟨k + 1, by omega, by omega, by omega⟩
      · rw [if_neg hk2] at h2
        exact .inl ⟨k, by omega, h1, h2⟩
    · rintro (⟨k, hk, h1, h2⟩ | rfl)
      · by_cases hk2 : k < m
        · exact ⟨k, by omega, by rw [ef k (by omega)]; exact h1, by rw [et k (by omega), if_neg (by omega)]; exact h2⟩
        · refine ⟨m, by omega, ?_, ?_⟩
          · rw [ef m (by omega)]
            by_cases hk3 : k = m
            · subst hk3; exact h1
            · obtain rfl : k = m + 1 := by omega
              omega
          · rw [et m (by omega), if_pos rfl]
            by_cases hk3 : k = m
            · subst hk3; omega
            · obtain rfl : k = m + 1 := by omega
              omega
      · exact ⟨m, by omega, by rw [ef m (by omega)]; omega, by rw [et m (by omega), if_pos rfl]; omega⟩
/-- where a number may come: behind all intervals, or just ahead of the last one -/
def NearOk (zs : List Int) (n : Nat) (pn : Int) : Prop :=
  (∀ k, k + 1 < n → zg zs (k * 2 + 1) ≤ pn) ∧ ∀ m, n = m + 1 → zg zs (m * 2 + 1) ≤ pn ∨ zg zs (m * 2) = pn + 1
/-- the intervals with one number more -/
def AddG (zs : List Int) (n t : Nat) (pn top lg wh few : Int) (w w' : World) : Prop :=
  ∃ zs' n', TkAt w' t zs' ∧ TkOk zs' n' (max top (pn + 1)) lg wh few ∧ (∀ i, covB zs' n' i = (covB zs n i || decide (i = pn))) ∧ Tu t t w w'
theorem TkOk.upg (h : TkOk zs n top lg wh few) {top' : Int} (ht : top ≤ top') : TkOk zs n top' lg wh few :=
  ⟨h.len, h.many, h.le, fun k hk => by have := h.rg k hk; omega, h.gap, h.size, by have := h.top0; omega, h.dl0, h.dl1, h.fl, h.lg, h.wh, h.c0, h.c1, h.d0, h.d1⟩
theorem TkOk.all {m : Nat} (h : TkOk zs (m + 1) top lg wh few) : TkOk zs (m + 1) (zg zs (m * 2 + 1)) lg wh few := by
  have hm := h.rg m (by omega)
  refine ⟨h.len, h.many, h.le, fun k hk => ?_, h.gap, h.size, by omega, h.dl0, h.dl1, h.fl, h.lg, h.wh, h.c0, h.c1, h.d0, h.d1⟩
  have := h.rg k hk
  by_cases hk2 : k = m
  · subst hk2; omega
  · have := h.gap k m (by omega) (by omega); omega
theorem add_gen (t : Nat) (pn : Int) (w : World) (hT : TkAt w t zs) (ok : TkOk zs n top lg wh few) (near : NearOk zs n pn) (h0 : 0 ≤ pn) (hn : n ≤ 14) (hp2 : pn ≤ 281474976710656) : Calls Tryz.prog 27 #[.pointer (some ⟨t, 0, none⟩), .int .i64 pn] w fun e w' => e = .returned (.tuple #[]) ∧ AddG zs n t pn top lg wh few w w' := by
  rcases Nat.eq_zero_or_pos n with hz | hz
  · subst hz
    refine (add_new t 0 zs pn w hT (by decide) ok.many (fun k hk => by omega) h0 hp2).mono ?_
    rintro e w' ⟨rfl, h1, h2⟩
    have ok0 : TkOk zs 0 0 lg wh few := ⟨ok.len, ok.many, ok.le, fun k hk => by omega, ok.gap, ok.size, Int.le_refl _, ok.dl0, ok.dl1, ok.fl, ok.lg, ok.wh, ok.c0, ok.c1, ok.d0, ok.d1⟩
    obtain ⟨k1, k2⟩ := ok0.more pn h0 h0 (fun k hk => by omega) (by decide)
    exact ⟨rfl, _, _, h1, k1.upg (by omega), k2, h2⟩
  · obtain ⟨m, rfl⟩ : ∃ m, n = m + 1 := ⟨n - 1, by omega⟩
    have hm := ok.rg m (by omega)
    have okA := ok.all
    have hall : zg zs (m * 2 + 1) ≤ pn → ∀ k, k < m → zg zs (k * 2 + 1) < pn := fun hle k hk => by
      have := ok.gap k m hk (by omega)
      omega
    rcases near.2 m rfl with hle | hfr
    · by_cases he : zg zs (m * 2 + 1) = pn
      · refine (add_end t m zs pn w hT (by omega) ok.many (hall hle) he h0 hp2).mono ?_
        rintro e w' ⟨rfl, h1, h2⟩
        obtain ⟨k1, k2⟩ := okA.longer pn he (by omega)
        exact ⟨rfl, _, _, h1, k1.upg (by omega), k2, h2⟩
      · have hall2 : ∀ k, k < m + 1 → zg zs (k * 2 + 1) < pn := fun k hk => by
          by_cases h2 : k = m
          · subst h2; omega
          · exact hall hle k (by omega)
        refine (add_new t (m + 1) zs pn w hT (by omega) ok.many hall2 h0 hp2).mono ?_
        rintro e w' ⟨rfl, h1, h2⟩
        obtain ⟨k1, k2⟩ := okA.more pn h0 hle hall2 (by omega)
        exact ⟨rfl, _, _, h1, k1.upg (by omega), k2, h2⟩
    · by_cases hg : ∃ j, m = j + 1 ∧ zg zs (j * 2 + 1) = pn
      · obtain ⟨j, rfl, hj⟩ := hg
        refine (add_merge t j zs pn _ w hT (by omega) ok.many (fun k hk => ?_) hj hfr rfl (show pn < zg zs _ by omega) h0 hp2).mono ?_
        · have := ok.gap k j hk (by omega)
          have := ok.rg j (by omega)
          show zg zs _ < pn
          omega
        · rintro e w' ⟨rfl, h1, h2⟩
          obtain ⟨k1, k2⟩ := ok.merge pn _ hj hfr rfl
          exact ⟨rfl, _, _, h1, k1.upg (by omega), k2, h2⟩
      · have hall2 : ∀ k, k < m → zg zs (k * 2 + 1) < pn := fun k hk => by
          have h1 := near.1 k (by omega)
          have h2 := ok.gap k m hk (by omega)
          by_cases hk2 : k + 1 = m
          · have : zg zs (k * 2 + 1) ≠ pn := fun e => hg ⟨k, hk2.symm, e⟩
            omega
          · have h3 := ok.gap k (k + 1) (by omega) (by omega)
            have h4 := ok.rg (k + 1) (by omega)
            have h5 := near.1 (k + 1) (by omega)
            omega
        refine (add_front t m zs pn w hT (by omega) ok.many hall2 hfr (show pn < zg zs _ by omega) h0 hp2).mono ?_
        rintro e w' ⟨rfl, h1, h2⟩
        obtain ⟨k1, k2⟩ := ok.front pn h0 hfr hall2
        exact ⟨rfl, _, _, h1, k1.upg (by omega), k2, h2⟩
/-- what Receive does -/
def RecvG (zs : List Int) (n t : Nat) (pn top lg' wh' few : Int) (w : World) (e : Ending) (w' : World) : Prop :=
  e = .returned (.int .i64 0) ∧ AddG zs n t pn top lg' wh' (few + 1) w w'
theorem rest_g {t : Nat} {pn lg' wh' : Int} {w w2 w' : World} {zs2 : List Int} {n2 : Nat} {lg wh top' : Int} (hcov : ∀ i, covB zs2 n2 i = (covB zs n i || decide (i = pn))) (ok2 : TkOk zs2 n2 (max top' (pn + 1)) lg wh few) (ht2 : Tu t t w w2) (ht3 : Tu t t w2 w')
    (c d : Int) (hT : TkAt w' t ((((zs2.set 37 lg').set 38 wh').set 39 c).set 40 d)) (hc0 : 0 ≤ c) (hc1 : c ≤ zg zs2 39 + 1) (hd0 : -1 ≤ d) (hd1 : d ≤ 4000000000000) : AddG zs n t pn top' lg' wh' (few + 1) w w' := by
  obtain ⟨k1, k2⟩ := ok2.rest lg' wh' c d hc0 (by have := ok2.c1; omega) hd0 hd1
  exact ⟨_, _, hT, k1, fun i => (k2 i).trans (hcov i), ht2.trans ht3⟩
set_option maxRecDepth 100000 in
set_option maxHeartbeats 4000000 in
theorem recv_gen (t : Nat) (now pn : Int) (w : World) (hT : TkAt w t zs) (ok : TkOk zs n top lg wh few) (near : NearOk zs n pn) (hnc : covB zs n pn = false) (hn : n ≤ 14) (hp0 : 0 ≤ pn) (hp2 : pn ≤ 281474976710655) (hlg0 : -1 ≤ lg) (hlg1 : lg ≤ 281474976710655) (_hne : lg ≠ pn) (hn1 : 0 ≤ now) (hn2 : now ≤ 1099511627776) (hfew : few ≤ 1000000000) (lg' wh' : Int) (hlg : lg' = max lg pn) (hwh : wh' = if lg < pn then now else wh) :
    Calls Tryz.prog 12 #[.pointer (some ⟨t, 0, none⟩), .int .i64 now, .int .i64 pn, .bool true] w (RecvG zs n t pn top lg' wh' few w) := by
  have HLW := Lib.hid (And.intro hlg hwh)
  clear hlg hwh
  have P58 := Lib.hid (has_any t n zs pn w hT (by have := ok.le; omega) ok.many)
  have HF := Lib.hid (show hasB pn (ivs zs n) = false from (hasB_cov zs n pn).trans hnc)
  have y36 := hT.zg 36 (by decide) ok.fl
  have H0 := Lib.hid (And.intro hT (And.intro ok near))
  clear hT ok near hnc
  have a1 : (now < 0) = False := eq_false (by omega)
  have a2 : (1099511627776 < now) = False := eq_false (by omega)
  have a3 : (pn < 0) = False := eq_false (by omega)
  have a4 : (281474976710655 < pn) = False := eq_false (by omega)
  go_enter Tryz.func12, Tryz.ntmps12
  go_wp2_with fail
  refine P58.out.mono ?_
  rintro e w1 ⟨rfl, hb⟩
  rw [HF.out]
  have T1 := Lib.hid (And.intro (H0.out.1.block (hb.block t H0.out.1.lt)) hb)
  clear hb y36
  go_wp2_with fail
  refine (add_gen t pn w1 T1.out.1 H0.out.2.1 H0.out.2.2 hp0 hn (by omega)).mono ?_
  rintro e w2 ⟨rfl, zs2, n2, T2, ok2, hcov, ht2⟩
  have y34 := T2.zg 34 (by decide) ok2.many
  have y37 := T2.zg 37 (by decide) ok2.lg
  have z37 := T2.frozen 37
  have z38 := T2.frozen 38
  have y38 := T2.zg 38 (by decide) ok2.wh
  have hn16 := ok2.le
  have a5 : (16 < (n2 : Int)) = False := eq_false (by omega)
  have H2 := Lib.hid (And.intro T2 (And.intro ok2 (And.intro hcov ((Tu.below T1.out.2).trans ht2))))
  clear T2 ok2 hcov ht2 T1 H0 P58 HF
  by_cases hup : lg < pn
  · have ST : ∀ od, Hid (Calls Tryz.prog 29 #[.pointer (some ⟨t, 0, none⟩), .int .i64 now, .bool od] ((w2.setCell ⟨t, 37, none⟩ (.int .i64 pn)).setCell ⟨t, 38, none⟩ (.int .i64 now)) fun e w' => e = .returned (.tuple #[]) ∧ AddG zs n t pn top lg' wh' (few + 1) w w') := fun od => by
      obtain ⟨T2, ok2, hcov, ht2⟩ := H2.out
      have e : ∀ j, 39 ≤ j ∨ j = 35 → ((zs2.set 37 pn).set 38 now)[j]?.getD (0:Int) = zg zs2 j := fun j hj => by
        show zg _ j = _
        rw [zg_set _ _ _ _ (by simp [ok2.len]), zg_set _ _ _ _ (by simp [ok2.len]), if_neg (by omega), if_neg (by omega)]
      refine Lib.hid ((sched_any t ((zs2.set 37 pn).set 38 now) now od _ ((T2.set 37 pn).set 38 now) _ (e 35 (.inr rfl)) ok2.dl0 ok2.dl1 _ (e 39 (.inl (by decide))) ok2.c0 (by have := ok2.c1; omega) _ (e 40 (.inl (by decide))) ok2.d0 ok2.d1 hn1 hn2).mono ?_)
      rintro e1 w' ⟨rfl, c, d, h1, h2, h3, h4, h5, h6⟩
      rw [e 39 (.inl (by decide))] at h3
      rw [HLW.out.1, HLW.out.2, show max lg pn = pn by omega, if_pos hup]
      exact ⟨rfl, rest_g hcov ok2 ht2 (((Tu.set _ _ _).trans (Tu.set _ _ _)).trans h6) c d h1 h2 h3 h4 h5⟩
    by_cases hl : lg = -1
    · have ST := (ST true)
      have HL := Lib.hid hl
      clear hl
      rw [HL.out] at y37
      go_wp2_with fail
      refine ST.out.mono ?_
      rintro e w3 ⟨rfl, h⟩
      have H3 := Lib.hid h
      clear h ST
      go_wp2
      go_ret
      exact ⟨rfl, H3.out⟩
    · have hl' : (lg == -1) = false := beq_eq_false_iff_ne.2 hl
      clear hl
      by_cases hq : pn = lg + 1
      · have hq' : (pn == lg + 1) = true := by rw [hq]; simp
        have ST := (ST true)
        clear hq
        go_wp2_with fail
        refine ST.out.mono ?_
        rintro e w3 ⟨rfl, h⟩
        have H3 := Lib.hid h
        clear h ST
        go_wp2
        go_ret
        exact ⟨rfl, H3.out⟩
      · have hq' : (pn == lg + 1) = false := beq_eq_false_iff_ne.2 hq
        have ST := (ST false)
        clear hq
        go_wp2_with fail
        refine ST.out.mono ?_
        rintro e w3 ⟨rfl, h⟩
        have H3 := Lib.hid h
        clear h ST
        go_wp2
        go_ret
        exact ⟨rfl, H3.out⟩
  · have ST : Hid (Calls Tryz.prog 29 #[.pointer (some ⟨t, 0, none⟩), .int .i64 now, .bool false] w2 fun e w' => e = .returned (.tuple #[]) ∧ AddG zs n t pn top lg' wh' (few + 1) w w') := by
      obtain ⟨T2, ok2, hcov, ht2⟩ := H2.out
      refine Lib.hid ((sched_any t zs2 now false _ T2 _ rfl ok2.dl0 ok2.dl1 _ rfl ok2.c0 (by have := ok2.c1; show zg zs2 39 ≤ _; omega) _ rfl ok2.d0 ok2.d1 hn1 hn2).mono ?_)
      rintro e1 w' ⟨rfl, c, d, h1, h2, h3, h4, h5, h6⟩
      rw [HLW.out.1, HLW.out.2, show max lg pn = lg by omega, if_neg hup]
      refine ⟨rfl, rest_g hcov ok2 ht2 h6 c d ?_ h2 h3 h4 h5⟩
      rw [T2.same 37 lg ok2.lg (by decide), T2.same 38 wh ok2.wh (by decide)]
      exact h1
    have hl' : (lg == -1) = false := beq_eq_false_iff_ne.2 (by omega)
    have hq' : (pn == lg + 1) = false := beq_eq_false_iff_ne.2 (by omega)
    go_wp2_with fail
    refine ST.out.mono ?_
    rintro e w3 ⟨rfl, h⟩
    have H3 := Lib.hid h
    clear h ST
    go_wp2
    go_ret
    exact ⟨rfl, H3.out⟩
end Go.Proofs.YtpfkeohaaeiaaaaGreat
/- Law 13b: the estimator of round-trip times. -/
namespace Go.Proofs.YtpfkeohaaeiaaaaGreat
open Go.RowKit
set_option maxRecDepth 100000 in
set_option maxHeartbeats 4000000 in
theorem max2 (g : Nat) (x y : Int) (w : World) (h : w.heap[g]? = some (.cells #[.int .i64 x, .int .i64 y] 3 (0, 0))) : Calls Tryz.prog 49 #[.slice (some ⟨g, 0, none⟩) 2 2] w fun e w' => e = .returned (.int .i64 (max x y)) ∧ w = w' := by
  have c0 := at_whole h 0 rfl
  have c1 := at_whole h 1 rfl
  simp only [List.getElem_toArray, List.getElem_cons_zero, List.getElem_cons_succ] at c0 c1
  clear h
  by_cases hxy : x < y
  · have e : Hid (max x y = y) := Lib.hid (by omega)
    go_enter Tryz.func49, Tryz.ntmps49
    go_wp2
    refine wp_loop_rounds 2 ?_
    rw [rounds_succ]
    go_wp2
    rw [rounds_succ]
    go_wp2
    go_ret
    exact ⟨by rw [e.out]; rfl, rfl⟩
  · have e : Hid (max x y = x) := Lib.hid (by omega)
    go_enter Tryz.func49, Tryz.ntmps49
    go_wp2
    refine wp_loop_rounds 2 ?_
    rw [rounds_succ]
    go_wp2
    rw [rounds_succ]
    go_wp2
    go_ret
    exact ⟨by rw [e.out]; rfl, rfl⟩
set_option maxRecDepth 100000 in
set_option maxHeartbeats 4000000 in
theorem min2 (g : Nat) (x y : Int) (w : World) (h : w.heap[g]? = some (.cells #[.int .i64 x, .int .i64 y] 3 (0, 0))) : Calls Tryz.prog 50 #[.slice (some ⟨g, 0, none⟩) 2 2] w fun e w' => e = .returned (.int .i64 (min x y)) ∧ w = w' := by
  have c0 := at_whole h 0 rfl
  have c1 := at_whole h 1 rfl
  simp only [List.getElem_toArray, List.getElem_cons_zero, List.getElem_cons_succ] at c0 c1
  clear h
  by_cases hxy : y < x
  · have e : Hid (min x y = y) := Lib.hid (by omega)
    go_enter Tryz.func50, Tryz.ntmps50
    go_wp2
    refine wp_loop_rounds 2 ?_
    rw [rounds_succ]
    go_wp2
    rw [rounds_succ]
    go_wp2
    go_ret
    exact ⟨by rw [e.out]; rfl, rfl⟩
  · have e : Hid (min x y = x) := Lib.hid (by omega)
    go_enter Tryz.func50, Tryz.ntmps50
    go_wp2
    refine wp_loop_rounds 2 ?_
    rw [rounds_succ]
    go_wp2
    rw [rounds_succ]
    go_wp2
    go_ret
    exact ⟨by rw [e.out]; rfl, rfl⟩
theorem most2 (g : Nat) (x y : Int) (w : World) (h : w.heap[g]? = some (.cells #[.int .i64 x, .int .i64 y] 3 (0, 0))) : Calls Tryz.prog 31 #[.slice (some ⟨g, 0, none⟩) 2 2] w fun e w' => e = .returned (.int .i64 (max x y)) ∧ w = w' := by
  have P := Lib.hid (max2 g x y w h)
  clear h
  go_enter Tryz.func31, Tryz.ntmps31
  go_wp2_with fail
  refine P.out.mono ?_
  rintro e w' ⟨rfl, rfl⟩
  go_wp2
  go_ret
  exact ⟨rfl, rfl⟩
theorem least2 (g : Nat) (x y : Int) (w : World) (h : w.heap[g]? = some (.cells #[.int .i64 x, .int .i64 y] 3 (0, 0))) : Calls Tryz.prog 32 #[.slice (some ⟨g, 0, none⟩) 2 2] w fun e w' => e = .returned (.int .i64 (min x y)) ∧ w = w' := by
  have P := Lib.hid (min2 g x y w h)
  clear h
  go_enter Tryz.func32, Tryz.ntmps32
  go_wp2_with fail
  refine P.out.mono ?_
  rintro e w' ⟨rfl, rfl⟩
  go_wp2
  go_ret
  exact ⟨rfl, rfl⟩
def esO (sm va la mi : Int) : Obj := .cells #[.int .i64 sm, .int .i64 va, .int .i64 la, .int .i64 mi] 65 (0, 0)
theorem es_new (w : World) : Calls Tryz.prog 7 #[] w fun e w' => e = .returned (.pointer (some ⟨w.heap.size, 0, none⟩)) ∧ w' = w.alloc (esO 80 20 0 0) := by
  go_enter Tryz.func7, Tryz.ntmps7
  go_wp2
  go_ret
  exact ⟨rfl, rfl⟩
theorem es_smoothed (b : Nat) (sm va la mi : Int) (w : World) (h : w.heap[b]? = some (esO sm va la mi)) (h0 : 0 ≤ sm) (h1 : sm ≤ 1000000000) : Calls Tryz.prog 19 #[.pointer (some ⟨b, 0, none⟩)] w fun e w' => e = .returned (.int .i64 (sm / 8)) ∧ w = w' := by
  have c0 : w.cell? ⟨b, 0, none⟩ = some (.int .i64 sm) := at_whole h 0 rfl
  clear h
  go_enter Tryz.func19, Tryz.ntmps19
  go_wp2
  go_ret
  exact ⟨rfl, rfl⟩
theorem es_min (b : Nat) (sm va la mi : Int) (w : World) (h : w.heap[b]? = some (esO sm va la mi)) : Calls Tryz.prog 20 #[.pointer (some ⟨b, 0, none⟩)] w fun e w' => e = .returned (.int .i64 mi) ∧ w = w' := by
  have c0 : w.cell? ⟨b, 3, none⟩ = some (.int .i64 mi) := at_whole h 3 rfl
  clear h
  go_enter Tryz.func20, Tryz.ntmps20
  go_wp2
  go_ret
  exact ⟨rfl, rfl⟩
theorem row2 (w : World) (x y : Int) : (w.alloc (.cells #[.int .i64 x, .int .i64 y] 3)).heap[w.heap.size]? = some (.cells #[.int .i64 x, .int .i64 y] 3 (0, 0)) := heap_alloc_new w _
set_option maxRecDepth 100000 in
set_option maxHeartbeats 4000000 in
/-- LossDelay where the smoothed and the latest are the same number r -/
theorem es_delay (b : Nat) (r va la mi : Int) (w : World) (h : w.heap[b]? = some (esO (8 * r) va la mi)) (h0 : 1 ≤ r) (h1 : r ≤ 1000) (hla : la ≤ r) (hla0 : 0 ≤ la) : Calls Tryz.prog 16 #[.pointer (some ⟨b, 0, none⟩)] w fun e w' => e = .returned (.int .i64 (r + (r + 7) / 8)) ∧ Below w.heap.size w w' := by
  have e8 := Lib.hid (show 8 * r / 8 = r by omega)
  have S2 : Hid (∀ W : World, W.heap[b]? = some (esO (8 * r) va la mi) → Calls Tryz.prog 19 #[.pointer (some ⟨b, 0, none⟩)] W fun e w' => e = .returned (.int .i64 r) ∧ w' = W) := Lib.hid fun W hW => (es_smoothed b _ _ _ _ W hW (by omega) (by omega)).mono fun e w' hh => ⟨by rw [hh.1, e8.out], hh.2.symm⟩
  have HB := Lib.hid h
  have c2 : w.cell? ⟨b, 2, none⟩ = some (.int .i64 la) := at_whole h 2 rfl
  clear h
  go_enter Tryz.func16, Tryz.ntmps16
  go_wp2_with fail
  go_still_tail 7, (by kernel_rfl)
  repeat (first | still_step | still_call (S2.out _ HB.out))
  refine wpStill_nil ?_
  change wpList _ _ _ _ _ w.drew
  have B1 := Lib.hid (show Below w.heap.size w w.drew from (Below.refl _ w).drew)
  generalize w.drew = w2 at B1 ⊢
  go_wp2_with fail
  refine (most2 _ r la _ (row2 _ _ _)).mono ?_
  rintro e w3 ⟨rfl, rfl⟩
  have e1 : max r la = r := by omega
  rw [e1]
  clear e1
  have B2 := Lib.hid (B1.out.alloc B1.out.size (.cells #[.int .i64 r, .int .i64 la] 3))
  generalize w2.alloc _ = w4 at B2 ⊢
  go_wp2_with fail
  refine (most2 _ _ 1 _ (row2 w4 _ 1)).mono ?_
  rintro e w5 ⟨rfl, rfl⟩
  have e1 : max (r + (r + 8 - 1) / 8) 1 = r + (r + 7) / 8 := by omega
  rw [e1]
  clear e1
  have B3 := Lib.hid (B2.out.alloc B2.out.size (.cells #[.int .i64 (r + (r + 8 - 1) / 8), .int .i64 1] 3))
  go_wp2
  go_ret
  exact ⟨rfl, B3.out⟩
set_option maxRecDepth 100000 in
set_option maxHeartbeats 4000000 in
/-- the first sample -/
theorem es_first (b : Nat) (r sm va : Int) (w : World) (h : w.heap[b]? = some (esO sm va 0 0)) (h0 : 1 ≤ r) (h1 : r ≤ 1000) : Calls Tryz.prog 14 #[.pointer (some ⟨b, 0, none⟩), .int .i64 r, .int .i64 0] w fun e w' => e = .returned (.tuple #[]) ∧ w'.heap[b]? = some (esO (8 * r) (2 * r) r r) ∧ Tu b b w w' := by
  have HB := Lib.hid h
  have hlt := heap_lt h
  clear h
  have a1 : (r < 0) = False := eq_false (by omega)
  have a2 : (1000000 < r) = False := eq_false (by omega)
  go_enter Tryz.func14, Tryz.ntmps14
  go_wp2_with fail
  refine (most2 _ _ 1 _ (row2 w _ 1)).mono ?_
  rintro e w5 ⟨rfl, rfl⟩
  have e1 : max r 1 = r := by omega
  rw [e1]
  clear e1
  have B2 := Lib.hid ((Below.refl _ w).alloc (Nat.le_refl _) (.cells #[.int .i64 r, .int .i64 1] 3))
  generalize w.alloc _ = w4 at B2 ⊢
  go_wp2_with fail
  refine (most2 _ _ 0 _ (row2 w4 _ 0)).mono ?_
  rintro e w5 ⟨rfl, rfl⟩
  have e1 : max (0:Int) 0 = 0 := by omega
  rw [e1]
  clear e1
  have B3 := Lib.hid (B2.out.alloc B2.out.size (.cells #[.int .i64 0, .int .i64 0] 3))
  generalize w4.alloc _ = w6 at B3 ⊢
  have HB6 := Lib.hid (heap_below B3.out HB.out)
  have c2 : w6.cell? ⟨b, 2, none⟩ = some (.int .i64 0) := at_whole HB6.out 2 rfl
  have c3 : w6.cell? ⟨b, 3, none⟩ = some (.int .i64 0) := at_whole HB6.out 3 rfl
  have c0 : w6.cell? ⟨b, 0, none⟩ = some (.int .i64 sm) := at_whole HB6.out 0 rfl
  have c1 : w6.cell? ⟨b, 1, none⟩ = some (.int .i64 va) := at_whole HB6.out 1 rfl
  have z0 := frozen_of_row w6 b 0 _ 65 HB6.out
  have z1 := frozen_of_row w6 b 1 _ 65 HB6.out
  have z2 := frozen_of_row w6 b 2 _ 65 HB6.out
  have z3 := frozen_of_row w6 b 3 _ 65 HB6.out
  have e4 := Lib.hid (show 4 * r / 2 = 2 * r by omega)
  go_wp2
  go_returns
  rw [e4.out]
  refine ⟨rfl, ?_, ((((Tu.below (B3.out)).trans (Tu.set _ _ _)).trans (Tu.set _ _ _)).trans (Tu.set _ _ _)).trans (Tu.set _ _ _)⟩
  exact (heap_setCell_same _ _ _ _ 65 _ (heap_setCell_same _ _ _ _ 65 _ (heap_setCell_same _ _ _ _ 65 _ (heap_setCell_same _ _ _ _ 65 _ HB6.out)))).trans rfl
set_option maxRecDepth 100000 in
set_option maxHeartbeats 4000000 in
theorem rule1 (b : Nat) (r v : Int) (w : World) (h : w.heap[b]? = some (esO (8 * r) v r r)) (h0 : 1 ≤ r) (h1 : r ≤ 1000) (v0 : 0 ≤ v) (v1 : v ≤ 1000000) : Calls Tryz.prog 59 #[.pointer (some ⟨b, 0, none⟩), .int .i64 r] w fun e w' => e = .returned (.tuple #[]) ∧ w'.heap[b]? = some (esO (8 * r) (v - v / 4) r r) ∧ Tu b b w w' := by
  have HB := Lib.hid h
  have c0 : w.cell? ⟨b, 0, none⟩ = some (.int .i64 (8 * r)) := at_whole h 0 rfl
  have e8 : 8 * r / 8 = r := by omega
  clear h
  go_enter Tryz.func59, Tryz.ntmps59
  go_wp2_with fail
  have ew : IntKind.i64.wrap r = r := IntWalk.i64_in _ (by omega)
  have ez : IntKind.i64.wrap (r - r) = 0 := by rw [show r - r = 0 by omega]; rfl
  go_still_tail 14, (by kernel_rfl)
  change wpList _ _ _ _ _ w.drew
  have B1 := Lib.hid (show Below w.heap.size w w.drew from (Below.refl _ w).drew)
  generalize w.drew = w2 at B1 ⊢
  clear ew ez e8 c0
  go_wp2_with fail
  refine (most2 _ _ _ _ (row2 w2 0 0)).mono ?_
  rintro e w3 ⟨rfl, rfl⟩
  rw [show max (0 : Int) 0 = 0 by omega]
  have B2 := Lib.hid (B1.out.alloc B1.out.size (.cells #[.int .i64 0, .int .i64 0] 3))
  generalize w2.alloc _ = w4 at B2 ⊢
  have HB4 := Lib.hid (heap_below B2.out HB.out)
  have c1 : w4.cell? ⟨b, 1, none⟩ = some (.int .i64 v) := at_whole HB4.out 1 rfl
  have z1 := frozen_of_row w4 b 1 _ 65 HB4.out
  have k1 := IntWalk.i64_quo v 4 (by omega)
  have k2 : IntKind.i64.wrap (-(v / 4)) = -(v / 4) := IntWalk.i64_in _ (by omega)
  have k3 : IntKind.i64.wrap (v + -(v / 4)) = v - v / 4 := by rw [IntWalk.i64_in _ (by omega)]; omega
  go_wp2_with fail
  go_still_tail 14, (by kernel_rfl)
  change wpList _ _ _ _ _ w4.drew
  have B4 := Lib.hid (show Tu b b w w4.drew ∧ w4.drew.heap[b]? = some (esO (8 * r) v r r) from ⟨(Tu.below B2.out).drew, HB4.out⟩)
  have c2 : w4.drew.cell? ⟨b, 1, none⟩ = some (.int .i64 v) := c1
  have z2 : w4.drew.frozen? ⟨b, 1, none⟩ = false := z1
  generalize w4.drew = w5 at B4 c2 z2 ⊢
  clear k1 k2 k3 c1 z1
  go_wp2
  go_returns
  exact ⟨rfl, (heap_setCell_same _ _ _ _ 65 _ B4.out.2).trans rfl, B4.out.1.trans (Tu.set _ _ _)⟩
set_option maxRecDepth 100000 in
set_option maxHeartbeats 4000000 in
theorem rule2 (b : Nat) (r v : Int) (w : World) (h : w.heap[b]? = some (esO (8 * r) v r r)) (h0 : 1 ≤ r) (h1 : r ≤ 1000) : Calls Tryz.prog 60 #[.pointer (some ⟨b, 0, none⟩), .int .i64 r] w fun e w' => e = .returned (.tuple #[]) ∧ w'.heap[b]? = some (esO (8 * r) v r r) ∧ Tu b b w w' := by
  have HB := Lib.hid h
  have c0 : w.cell? ⟨b, 0, none⟩ = some (.int .i64 (8 * r)) := at_whole h 0 rfl
  have z0 := frozen_of_row w b 0 _ 65 h
  have e8 : 8 * r / 8 = r := by omega
  have ew : IntKind.i64.wrap r = r := IntWalk.i64_in _ (by omega)
  have e3 : IntKind.i64.wrap (8 * r) = 8 * r := IntWalk.i64_in _ (by omega)
  clear h
  go_enter Tryz.func60, Tryz.ntmps60
  go_wp2_with fail
  go_still_tail 14, (by kernel_rfl)
  change wpList _ _ _ _ _ w.drew
  have B4 := Lib.hid (show Tu b b w w.drew ∧ w.drew.heap[b]? = some (esO (8 * r) v r r) from ⟨(Tu.refl _ _ _).drew, HB.out⟩)
  have c2 : w.drew.cell? ⟨b, 0, none⟩ = some (.int .i64 (8 * r)) := c0
  have z2 : w.drew.frozen? ⟨b, 0, none⟩ = false := z0
  generalize w.drew = w5 at B4 c2 z2 ⊢
  clear e8 ew e3 c0 z0
  go_wp2
  go_returns
  rw [show 8 * r + 0 = 8 * r by omega]
  exact ⟨rfl, (heap_setCell_same _ _ _ _ 65 _ B4.out.2).trans rfl, B4.out.1.trans (Tu.set _ _ _)⟩
theorem rules_any (w : World) : Calls Tryz.prog 51 #[] w fun e w' => e = .returned (.slice (some ⟨w.heap.size, 0, none⟩) 2 2) ∧ w' = w.alloc (.cells #[.func (.func 59) #[] #[], .func (.func 60) #[] #[]] 98) := by
  go_enter Tryz.func51, Tryz.ntmps51
  go_wp2
  go_ret
  exact ⟨rfl, rfl⟩
set_option maxRecDepth 100000 in
set_option maxHeartbeats 4000000 in
theorem es_add (b : Nat) (r v : Int) (w : World) (h : w.heap[b]? = some (esO (8 * r) v r r)) (h0 : 1 ≤ r) (h1 : r ≤ 1000) (v0 : 0 ≤ v) (v1 : v ≤ 1000000) : Calls Tryz.prog 33 #[.pointer (some ⟨b, 0, none⟩), .int .i64 r] w fun e w' => e = .returned (.tuple #[]) ∧ w'.heap[b]? = some (esO (8 * r) (v - v / 4) r r) ∧ Tu b b w w' := by
  have HB := Lib.hid h
  have hlt := heap_lt h
  clear h
  go_enter Tryz.func33, Tryz.ntmps33
  go_wp2_with fail
  refine (rules_any _).mono ?_
  rintro e w1 ⟨rfl, hw1⟩
  have H1 := Lib.hid (show w1.heap[w.heap.size]? = some (.cells #[.func (.func 59) #[] #[], .func (.func 60) #[] #[]] 98 (0, 0)) ∧ Below w.heap.size w w1 from hw1 ▸ ⟨heap_alloc_new w _, (Below.refl _ w).alloc (Nat.le_refl _) _⟩)
  clear hw1
  have c0 : w1.cell? ⟨w.heap.size, 0, none⟩ = some (.func (.func 59) #[] #[]) := at_whole H1.out.1 0 rfl
  generalize hg : w.heap.size = g at c0 ⊢
  go_wp2_with fail
  refine wp_loop_rounds 3 ?_
  rw [rounds_succ]
  go_wp2_with fail
  have HB1 := Lib.hid (heap_below (H1.out.2.alloc H1.out.2.size (.cells #[.func (.func 59) #[] #[]] 98)) HB.out)
  refine (rule1 b r v _ HB1.out h0 h1 v0 v1).mono ?_
  rintro e w2 ⟨rfl, hh, ht⟩
  have H2 := Lib.hid (And.intro hh (((Tu.below (H1.out.2.alloc H1.out.2.size _)).trans ht)))
  have hgb : g ≠ b := by omega
  have hgl : g < (w1.alloc (.cells #[.func (.func 59) #[] #[]] 98)).heap.size := by have := heap_lt H1.out.1; rw [hg] at this; simp; omega
  have H3 := Lib.hid (show w2.heap[g]? = some (.cells #[.func (.func 59) #[] #[], .func (.func 60) #[] #[]] 98 (0, 0)) from (ht.block g hgl hgb hgb).trans ((Below.heap_alloc w1 _ g (by have := heap_lt H1.out.1; rw [hg] at this; omega)).trans (hg ▸ H1.out.1)))
  have c1 : w2.cell? ⟨g, 1, none⟩ = some (.func (.func 60) #[] #[]) := at_whole H3.out 1 rfl
  clear hh ht hgl c0
  go_wp2_with fail
  rw [rounds_succ]
  go_wp2_with fail
  have H4 := Lib.hid (And.intro (heap_below ((Below.refl _ w2).alloc (Nat.le_refl _) (.cells #[.func (.func 60) #[] #[]] 98)) H2.out.1) (H2.out.2.trans (Tu.below ((Below.refl _ w2).alloc (Nat.le_refl _) (.cells #[.func (.func 60) #[] #[]] 98)))))
  refine (rule2 b r (v - v / 4) _ H4.out.1 h0 h1).mono ?_
  rintro e w5 ⟨rfl, hh, ht⟩
  have H5 := Lib.hid (And.intro hh (H4.out.2.trans ht))
  clear hh ht c1
  go_wp2_with fail
  rw [rounds_succ]
  go_wp2_with fail
  go_returns
  exact ⟨rfl, H5.out.1, H5.out.2⟩
set_option maxRecDepth 100000 in
set_option maxHeartbeats 4000000 in
/-- a further sample of the same time -/
theorem es_more (b : Nat) (r v : Int) (w : World) (h : w.heap[b]? = some (esO (8 * r) v r r)) (h0 : 1 ≤ r) (h1 : r ≤ 1000) (v0 : 0 ≤ v) (v1 : v ≤ 1000000) : Calls Tryz.prog 14 #[.pointer (some ⟨b, 0, none⟩), .int .i64 r, .int .i64 0] w fun e w' => e = .returned (.tuple #[]) ∧ w'.heap[b]? = some (esO (8 * r) (v - v / 4) r r) ∧ Tu b b w w' := by
  have HB := Lib.hid h
  have hlt := heap_lt h
  clear h
  have a1 : (r < 0) = False := eq_false (by omega)
  have a2 : (1000000 < r) = False := eq_false (by omega)
  have a3 : (r == 0) = false := beq_eq_false_iff_ne.2 (by omega)
  go_enter Tryz.func14, Tryz.ntmps14
  go_wp2_with fail
  refine (most2 _ _ 1 _ (row2 w _ 1)).mono ?_
  rintro e w5 ⟨rfl, rfl⟩
  have e1 : max r 1 = r := by omega
  rw [e1]
  clear e1
  have B2 := Lib.hid ((Below.refl _ w).alloc (Nat.le_refl _) (.cells #[.int .i64 r, .int .i64 1] 3))
  generalize w.alloc _ = w4 at B2 ⊢
  go_wp2_with fail
  refine (most2 _ _ 0 _ (row2 w4 _ 0)).mono ?_
  rintro e w5 ⟨rfl, rfl⟩
  have e1 : max (0:Int) 0 = 0 := by omega
  rw [e1]
  clear e1
  have B3 := Lib.hid (B2.out.alloc B2.out.size (.cells #[.int .i64 0, .int .i64 0] 3))
  generalize w4.alloc _ = w6 at B3 ⊢
  have HB6 := Lib.hid (heap_below B3.out HB.out)
  have c2 : w6.cell? ⟨b, 2, none⟩ = some (.int .i64 r) := at_whole HB6.out 2 rfl
  have c3 : w6.cell? ⟨b, 3, none⟩ = some (.int .i64 r) := at_whole HB6.out 3 rfl
  have z2 := frozen_of_row w6 b 2 _ 65 HB6.out
  have z3 := frozen_of_row w6 b 3 _ 65 HB6.out
  go_wp2_with fail
  refine (least2 _ r r _ (row2 w6 r r)).mono ?_
  rintro e w7 ⟨rfl, rfl⟩
  rw [show min r r = r by omega]
  have B4 := Lib.hid (B3.out.alloc B3.out.size (.cells #[.int .i64 r, .int .i64 r] 3))
  have HB7 := Lib.hid (heap_below B4.out HB.out)
  generalize w6.alloc _ = w7 at B4 HB7 ⊢
  have d2 : w7.cell? ⟨b, 2, none⟩ = some (.int .i64 r) := at_whole HB7.out 2 rfl
  have d3 : w7.cell? ⟨b, 3, none⟩ = some (.int .i64 r) := at_whole HB7.out 3 rfl
  have y2 := frozen_of_row w7 b 2 _ 65 HB7.out
  have y3 := frozen_of_row w7 b 3 _ 65 HB7.out
  clear c2 c3 z2 z3
  have K := Lib.hid (show ((w7.setCell ⟨b, 2, none⟩ (.int .i64 r)).setCell ⟨b, 3, none⟩ (.int .i64 r)).heap[b]? = some (esO (8 * r) v r r) ∧ Tu b b w ((w7.setCell ⟨b, 2, none⟩ (.int .i64 r)).setCell ⟨b, 3, none⟩ (.int .i64 r)) from
    ⟨(heap_setCell_same _ _ _ _ 65 _ (heap_setCell_same _ _ _ _ 65 _ HB7.out)).trans rfl, ((Tu.below B4.out).trans (Tu.set _ _ _)).trans (Tu.set _ _ _)⟩)
  go_wp2_with fail
  refine (es_add b r v _ K.out.1 h0 h1 v0 v1).mono ?_
  rintro e w8 ⟨rfl, hh, ht⟩
  have H := Lib.hid (And.intro hh (K.out.2.trans ht))
  clear hh ht K
  go_wp2
  go_returns
  exact ⟨rfl, H.out.1, H.out.2⟩
end Go.Proofs.YtpfkeohaaeiaaaaGreat
/- Law 13: remove. -/
namespace Go.Proofs.YtpfkeohaaeiaaaaGreat
open Go.RowKit Go.Maps
/-- what is left when the first k of the chosen ones are struck -/
def Lk (l : List Pk) (f : Pk → Bool) (k : Nat) : List Pk := l.filter fun p => !((l.filter f).take k).any fun q => q.pn == p.pn
theorem Lk_zero (l : List Pk) (f : Pk → Bool) : Lk l f 0 = l := by unfold Lk; simp
theorem Lk_succ (l : List Pk) (f : Pk → Bool) (k : Nat) (hk : k < (l.filter f).length) : (Lk l f k).filter (fun p => p.pn != ((l.filter f)[k]'hk).pn) = Lk l f (k + 1) := by
  unfold Lk
  rw [List.filter_filter, List.take_succ_eq_append_getElem hk]
  congr 1
  funext p
  simp only [List.any_append, List.any_cons, List.any_nil, Bool.or_false, Bool.not_or]
  rw [Bool.and_comm]
  congr 1
  rw [show (p.pn != ((l.filter f)[k]'hk).pn) = !(((l.filter f)[k]'hk).pn == p.pn) from by rw [bne, Bool.beq_comm]]
theorem Lk_end (l : List Pk) (f : Pk → Bool) (nx : Int) (hu : Up nx l) : Lk l f (l.filter f).length = l.filter fun p => !f p := by
  unfold Lk
  rw [List.take_length]
  refine List.filter_congr fun p hp => ?_
  congr 1
  rw [Bool.eq_iff_iff, List.any_eq_true]
  constructor
  · rintro ⟨q, hq, e⟩
    obtain ⟨h1, h2⟩ := List.mem_filter.1 hq
    have e : q.pn = p.pn := by simpa using e
    have : q = p := by
      obtain ⟨i, hi, rfl⟩ := List.getElem_of_mem h1
      obtain ⟨j, hj, rfl⟩ := List.getElem_of_mem hp
      have h3 := List.pairwise_iff_getElem.1 hu.inc
      rcases Nat.lt_trichotomy i j with h | h | h
      · have := h3 i j hi hj h; omega
      · subst h; rfl
      · have := h3 j i hj hi h; omega
    rw [← this]; exact h2
  · intro h
    exact ⟨p, List.mem_filter.2 ⟨hp, h⟩, by simp⟩
theorem Lk_sub (l : List Pk) (f : Pk → Bool) (k : Nat) : ∀ p ∈ Lk l f k, p ∈ l := fun _p hp => (List.mem_filter.1 hp).1
def Rc.cut (R : Rc) (f : Pk → Bool) : Rc := { R with l := R.l.filter fun p => !f p }
theorem Rc.Ok.cut {R : Rc} (h : R.Ok) (f : Pk → Bool) : (R.cut f).Ok :=
  ⟨h.up.filter _, h.n0, h.n1, h.g0, h.g1, by have := h.len; have : (R.l.filter fun p => !f p).length ≤ R.l.length := List.length_filter_le _ _; show ((R.l.filter fun p => !f p).length : Int) ≤ R.nx; omega, fun p hp => h.tm p (List.mem_filter.1 hp).1⟩
def RemPost (b M : Nat) (R : Rc) (f : Pk → Bool) (w : World) (e : Ending) (w' : World) : Prop := ∃ v, e = .returned v ∧ PkRow w.heap.size w' v (R.l.filter f) ∧ RecAt w' b M (R.cut f) ∧ Tu b M w w'
set_option maxRecDepth 100000 in
set_option maxHeartbeats 4000000 in
theorem remove_any {w : World} {b M : Nat} {R : Rc} (hR : RecAt w b M R) (ok : R.Ok) {k : Nat} {lb : Array Value} {f : Pk → Bool} (hw : Wants w k lb f R.l) (ek : ∀ args w, (callFunc k args).run Tryz.prog w = .ok (.enter k args) w) :
    Calls Tryz.prog 35 #[.pointer (some ⟨b, 0, none⟩), .func (.func k) #[] lb] w (RemPost b M R f w) := by
  have SEL := Lib.hid (sel_any hR ok hw ek)
  have HR := Lib.hid hR
  have OK := Lib.hid ok
  have hlen : (R.l.filter f).length ≤ 10000 := by have := ok.len; have := ok.n1; have := List.length_filter_le f R.l; omega
  clear hR ok hw
  go_enter Tryz.func35, Tryz.ntmps35
  go_wp2_with (first | (go_at_call 41; refine (all_any _ _).mono ?_; rintro e w' ⟨rfl, rfl⟩) | (go_at_call 40; refine SEL.out.mono ?_; rintro e w1 ⟨v, rfl, hv, hb1⟩; rcases hv.form with ⟨rfl, hl0⟩ | ⟨g, cap, cur, rfl, hpos, hcap, hm, hg, hgg, hcell⟩))
  · have hL : R.cut f = R := by
      have := Lk_end R.l f R.nx OK.out.up
      rw [hl0, List.length_nil, Lk_zero] at this
      unfold Rc.cut
      rw [← this]
    have H := Lib.hid (And.intro hv hb1)
    clear hv hb1
    refine wp_loop_rounds 1 ?_
    rw [rounds_succ]
    go_wp2
    go_ret
    refine ⟨_, rfl, H.out.1, ?_, Tu.below H.out.2⟩
    rw [hL]
    exact HR.out.below H.out.2
  · have H := Lib.hid (And.intro hv (And.intro hb1 (And.intro hg (And.intro hgg hcell))))
    have HR1 := Lib.hid (HR.out.below hb1)
    clear hv hb1 hg hgg hcell
    unfold maxLen at hm
    go_loopw [14] (fun i wr => ∃ j : Nat, j ≤ (R.l.filter f).length ∧ i = .int .i64 j ∧ RecAt wr b M { R with l := Lk R.l f j } ∧ Tu b M w1 wr) (fun i _ => (R.l.filter f).length - (intOf i).toNat)
    case atStart => exact ⟨0, by omega, rfl, by rw [Lk_zero]; exact HR1.out, Tu.refl _ _ _⟩
    case round =>
      obtain ⟨j, hj, rfl, hRj, hT⟩ := hrel
      have HJ := Lib.hid (And.intro hRj hT)
      clear hRj hT
      by_cases hlt : j < (R.l.filter f).length
      · have hgn := Lib.hid (HJ.out.2.block g (heap_lt H.out.2.2.2.1) (HR1.out.not_row H.out.2.2.2.1).1 (HR1.out.not_row H.out.2.2.2.1).2)
        have HC := Lib.hid (H.out.2.2.2.2 j hlt)
        have q0 : wr.cell? ⟨g, j * 5, none⟩ = _ := (World.cell?_of_block (a := ⟨g, j * 5, none⟩) hgn.out).trans HC.out.1
        have q1 : wr.cell? ⟨g, j * 5 + 1, none⟩ = _ := (World.cell?_of_block (a := ⟨g, j * 5 + 1, none⟩) hgn.out).trans HC.out.2.1
        have q2 : wr.cell? ⟨g, j * 5 + 2, none⟩ = _ := (World.cell?_of_block (a := ⟨g, j * 5 + 2, none⟩) hgn.out).trans HC.out.2.2.1
        have q3 : wr.cell? ⟨g, j * 5 + 3, none⟩ = _ := (World.cell?_of_block (a := ⟨g, j * 5 + 3, none⟩) hgn.out).trans HC.out.2.2.2.1
        have q4 : wr.cell? ⟨g, j * 5 + 4, none⟩ = _ := (World.cell?_of_block (a := ⟨g, j * 5 + 4, none⟩) hgn.out).trans HC.out.2.2.2.2
        have hpm : (R.l.filter f)[j]'hlt ∈ R.l := (List.mem_filter.1 (List.getElem_mem hlt)).1
        have hfv := OK.out.up.fvs _ hpm
        have hLS := Lib.hid (Lk_succ R.l f j hlt)
        have hbd := Lib.hid (And.intro (OK.out.up.bnd _ hpm) OK.out.n1)
        generalize (R.l.filter f)[j]'hlt = p at *
        obtain ⟨pn, time, size, el, fv⟩ := p
        obtain ⟨fa, fl, fc, e⟩ := hfv
        obtain rfl : fv = .slice fa fl fc := e
        simp only at q0 q1 q2 q3 q4
        have X := Lib.hid (box1 wr (.cells #[.int .i64 pn, .int .i64 time, .int .i64 size, .bool el, .slice fa fl fc] 39))
        have cb := at_whole (HJ.out.1.below X.out.2.1).1 0 rfl
        have cp := at_whole X.out.1 0 rfl
        simp only [List.getElem_toArray, List.getElem_cons_zero] at cb cp
        clear hpm
        go_wp2
        have HJ1 := Lib.hid (HJ.out.1.below X.out.2.1)
        have HT1 := Lib.hid (HJ.out.2.trans (Tu.below X.out.2.1))
        generalize wr.alloc _ = V at X cb cp HJ1 HT1 ⊢
        go_still_tail 6, (by kernel_rfl)
        obtain ⟨D, hD, hH⟩ := HJ1.out.2
        have hkey : keyOf Tryz.prog 3 (.int .i64 pn) = some (.int .i64 pn) := Maps.keyOf_int_mk Tryz.underlying3 (pnWf hbd.out.1.1 (by have := hbd.out; omega))
        refine wpList_delete_own _ rfl _ _ 57 3 rfl 39 (Maps.int_keyed Tryz.underlying3) Tryz.underlying57 _ M _ D rfl (World.ownsMap.drew hD) _ _ rfl hkey ?_
        intro w3 hown3 hturn3
        have HJ3 := Lib.hid (show RecAt w3 b M { R with l := Lk R.l f (j + 1) } from by
          have h2 := (HJ1.out.1 : V.heap[b]? = _)
          refine ⟨(hturn3.grown.block b (heap_lt h2) (fun e => HJ1.out.ne (by cases e; rfl))).trans h2, _, hown3, ?_⟩
          rw [← hLS.out]
          exact hH.del pn)
        have HT3 := Lib.hid (HT1.out.drew.trans (Tu.map hturn3.grown))
        clear hD hH hown3 hturn3 hkey cb cp q0 q1 q2 q3 q4
        go_wp2
        go_roundw
        case rel => exact ⟨j + 1, by omega, by go_num, HJ3.out, HT3.out⟩
        case measure => simp [intOf]; omega
      · obtain rfl : j = (R.l.filter f).length := by omega
        clear hlt
        go_wp2
        go_ret
        refine ⟨_, rfl, H.out.1.turn HR1.out HJ.out.2, ?_, (Tu.below H.out.2.1).trans HJ.out.2⟩
        have := HJ.out.1
        rw [Lk_end R.l f R.nx OK.out.up] at this
        exact this
end Go.Proofs.YtpfkeohaaeiaaaaGreat
