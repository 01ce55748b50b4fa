/- Texts Lkd Lke Lkf Lkg Lkh of this claim, one behind the other. -/
import Derived.Test.YtpfkeohaaeiaaaaGreatDoorRc9
import Derived.Test.YtpfkeohaaeiaaaaGreatDoorRc22
/- Acks: the first of 17 intervals is removed. -/
namespace Go.Proofs.YtpfkeohaaeiaaaaGreatDoor.frm
open Go.RowKit
set_option maxRecDepth 100000
/-- the intervals moved down by one -/
def downZ (zs : List Int) : List Int := (zs.drop 2).take 32 ++ zs.drop 32
theorem downZ_length {zs : List Int} (h : zs.length = 41) : (downZ zs).length = 41 := by simp [downZ]; omega
theorem downZ_get {zs : List Int} (h : zs.length = 41) (j : Nat) : zg (downZ zs) j = if j < 32 then zg zs (j + 2) else zg zs j := by
  unfold zg downZ
  have hl : ((zs.drop 2).take 32).length = 32 := by simp; omega
  by_cases c : j < 32
  · rw [if_pos c, List.getElem?_append_left (by omega), List.getElem?_take_of_lt c, List.getElem?_drop, Nat.add_comm]
  · rw [if_neg c, List.getElem?_append_right (by omega), hl, List.getElem?_drop, show 32 + (j - 32) = j by omega]
theorem sizeS : (Tryz.prog.info? 103).map (·.size) = some 2 := by kernel_rfl
set_option maxHeartbeats 4000000 in
theorem remove_first (t : Nat) (zs : List Int) (w : World) (hT : TkAt w t zs) (hz : zs[34]?.getD (0:Int) = 17) :
    Calls Tryz.prog 80 #[.pointer (some ⟨t, 0, none⟩), .int .i64 0] w (AddPost ((downZ zs).set 34 16) t w) := by
  have HT := Lib.hid (And.intro hT hz)
  have y34 := hT.cell 34 (by decide)
  rw [hz] at y34
  clear hT hz
  have hsl : ∀ w, (Instr.sliceAt 104 (.pointer (some ⟨t, 0, none⟩)) (some (.int .i64 1)) (some (.int .i64 17)) none).run Tryz.prog w = .ok (.slice (some ⟨t, 2, none⟩) 16 16) w := fun w => by
    have := slice_tail t 1 17 w (by omega) (by omega) (by omega)
    simpa using this
  have hsl2 : ∀ w, (Instr.sliceAt 104 (.pointer (some ⟨t, 0, none⟩)) (some (.int .i64 0)) none none).run Tryz.prog w = .ok (.slice (some ⟨t, 0, none⟩) 17 17) w := fun w => by simp [go_sem]
  have i3 : IntKind.i64.wrap 1 = 1 := IntWalk.i64_in _ (by omega)
  go_enter Tryz.func80, Tryz.ntmps80
  go_wp2_with fail
  go_still_tail 15, (by kernel_rfl)
  obtain ⟨hT, hz⟩ := HT.out
  have hcs : ((zs.drop 2).take 32 |>.map (Value.int .i64)).length = 16 * 2 := by have := hT.1; simp; omega
  refine wpList_copy_rowS rfl (.tmp 8) (.tmp 18) 54 54 rfl 103 2 16 Tryz.underlying54 sizeS t 0 17 17 ⟨t, 2, none⟩ 16 16 rfl rfl (zs.map (Value.int .i64)).toArray 108 (by exact hT.2) ((zs.drop 2).take 32 |>.map (Value.int .i64)) rfl hcs (fun j v hj => ?_) (by rw [hcs]; have := hT.1; simp; omega) (fun v hv => by obtain ⟨x, _, rfl⟩ := List.mem_map.1 hv; rfl) ?_
  · rw [List.getElem?_map, Option.map_eq_some_iff] at hj
    obtain ⟨x, hx, rfl⟩ := hj
    have hj32 : j < 32 := by have := (List.getElem?_eq_some_iff.1 hx).1; simp at this; omega
    rw [List.getElem?_take_of_lt hj32, List.getElem?_drop] at hx
    rw [add_plain]
    have := hT.cell (2 + j) (by omega)
    rw [hx] at this
    exact this
  have hl := hT.1
  have e1 : (List.take 0 (List.map (Value.int IntKind.i64) zs).toArray.toList ++ List.map (Value.int IntKind.i64) (List.take 32 (List.drop 2 zs)) ++ List.drop (0 + (List.map (Value.int IntKind.i64) (List.take 32 (List.drop 2 zs))).length) (List.map (Value.int IntKind.i64) zs).toArray.toList) = (downZ zs).map (Value.int .i64) := by
    rw [hcs]
    unfold downZ
    simp
  rw [e1]
  have T2 : TkAt (w.drew.setRow t ((downZ zs).map (Value.int .i64)).toArray) t (downZ zs) := ⟨downZ_length hl, setRow_heap _ _ _ _ 108 (0, 0) (by exact hT.2)⟩
  have U2 : Tu t t w (w.drew.setRow t ((downZ zs).map (Value.int .i64)).toArray) := ⟨rfl, rfl, rfl, by show w.heap.size ≤ (w.drew.setRow t _).heap.size; simp, fun k _ h1 _ => setRow_other w.drew t k _ h1⟩
  have y34' := T2.cell 34 (by decide)
  have e34 : (downZ zs)[34]?.getD (0:Int) = 17 := by
    have := downZ_get hl 34
    rw [if_neg (by decide)] at this
    exact this.trans hz
  rw [e34] at y34'
  have z34 := T2.frozen 34
  have H2 := Lib.hid (And.intro T2 U2)
  have i4 : IntKind.i64.wrap (17 - 1) = 16 := IntWalk.i64_in _ (by omega)
  clear T2 U2 y34 hsl hsl2 hT hz hcs e1 e34 hl i3
  have e2 : ({ heap := w.heap, tape := w.tape, drawn := w.drawn + 1, os := w.os, output := w.output } : World) = w.drew := rfl
  rw [e2]
  generalize w.drew.setRow t _ = W2 at *
  go_wp2
  go_returns
  exact ⟨rfl, H2.out.1.set _ _, H2.out.2.trans (Tu.set _ _ _)⟩
end Go.Proofs.YtpfkeohaaeiaaaaGreatDoor.frm
/- Acks: plain laws of a Tracker with up to 17 intervals. Printed by gen/mkLke.py. -/
namespace Go.Proofs.YtpfkeohaaeiaaaaGreatDoor.frm
open Go.RowKit
set_option maxRecDepth 100000
structure Tg (zs : List Int) (n : Nat) (top lg wh few : Int) : Prop where
  len : zs.length = 41
  many : zg zs 34 = (n : Int)
  le : n ≤ 17
  rg : ∀ k, k < n → 0 ≤ zg zs (k * 2) ∧ zg zs (k * 2) < zg zs (k * 2 + 1) ∧ zg zs (k * 2 + 1) ≤ top
  gap : ∀ j k, j < k → k < n → zg zs (j * 2 + 1) < zg zs (k * 2)
  top0 : 0 ≤ top
  dl0 : 0 ≤ zg zs 35
  dl1 : zg zs 35 ≤ 20
  fl : 0 ≤ zg zs 36 ∧ zg zs 36 ≤ top
  lg : zg zs 37 = lg
  wh : zg zs 38 = wh
  c0 : 0 ≤ zg zs 39
  c1 : zg zs 39 ≤ few
  d0 : -1 ≤ zg zs 40
  d1 : zg zs 40 ≤ 4000000000000
theorem Tg.cov_lt {zs : List Int} {n : Nat} {top lg wh few : Int} (h : Tg zs n top lg wh few) {i : Int} (hc : covB zs n i = true) : 0 ≤ i ∧ i < top := by
  obtain ⟨k, hk, h1, h2⟩ := covB_iff.1 hc
  have := h.rg k hk
  omega
theorem Tg.not_cov {zs : List Int} {n : Nat} {top lg wh few : Int} (h : Tg zs n top lg wh few) {i : Int} (hi : top ≤ i) : covB zs n i = false := by
  cases e : covB zs n i with
  | false => rfl
  | true => have := h.cov_lt e; omega
variable {zs : List Int} {n : Nat} {top lg wh few : Int}
/-- the other fields may turn -/
theorem Tg.rest (h : Tg zs n top lg wh few) (lg' wh' c d : Int) (hc0 : 0 ≤ c) (hc1 : c ≤ few + 1) (hd0 : -1 ≤ d) (hd1 : d ≤ 4000000000000) :
    Tg ((((zs.set 37 lg').set 38 wh').set 39 c).set 40 d) n top lg' wh' (few + 1) ∧ ∀ i, covB ((((zs.set 37 lg').set 38 wh').set 39 c).set 40 d) n i = covB zs n i := by
  have hl := h.len
  have e : ∀ j, zg ((((zs.set 37 lg').set 38 wh').set 39 c).set 40 d) j = if 40 = j then d else if 39 = j then c else if 38 = j then wh' else if 37 = j then lg' else zg zs j := fun j => by
    rw [zg_set _ _ _ _ (by simp [hl]), zg_set _ _ _ _ (by simp [hl]), zg_set _ _ _ _ (by simp [hl]), zg_set _ _ _ _ (by simp [hl])]
  have e' : ∀ j, j < 37 → zg ((((zs.set 37 lg').set 38 wh').set 39 c).set 40 d) j = zg zs j := fun j hj => by
    rw [e, if_neg (by omega), if_neg (by omega), if_neg (by omega), if_neg (by omega)]
  have hn := h.le
  refine ⟨⟨by simp [hl], by rw [e' _ (by omega)]; exact h.many, hn, fun k hk => ?_, fun j k hj hk => ?_, h.top0, by rw [e' _ (by omega)]; exact h.dl0, by rw [e' _ (by omega)]; exact h.dl1, by rw [e' _ (by omega)]; exact h.fl,
    by rw [e]; rfl, by rw [e]; rfl, by rw [e]; exact hc0, by rw [e]; exact hc1, by rw [e]; exact hd0, by rw [e]; exact hd1⟩, fun i => ?_⟩
  · rw [e' _ (by omega), e' _ (by omega)]; exact h.rg k hk
  · rw [e' _ (by omega), e' _ (by omega)]; exact h.gap j k hj hk
  · rw [Bool.eq_iff_iff, covB_iff, covB_iff]
    constructor
    · rintro ⟨k, hk, h1, h2⟩
      rw [e' _ (by omega)] at h1 h2
      exact ⟨k, hk, h1, h2⟩
    · rintro ⟨k, hk, h1, h2⟩
      refine ⟨k, hk, ?_, ?_⟩ <;> rw [e' _ (by omega)] <;> assumption
/-- the last interval made longer -/
theorem Tg.longer {m : Nat} (h : Tg zs (m + 1) top lg wh few) (pn : Int) (he : zg zs (m * 2 + 1) = pn) (ht : top ≤ pn) :
    Tg (zs.set (m * 2 + 1) (pn + 1)) (m + 1) (pn + 1) lg wh few ∧ ∀ i, covB (zs.set (m * 2 + 1) (pn + 1)) (m + 1) i = (covB zs (m + 1) i || decide (i = pn)) := by
  have hl := h.len
  have hn := h.le
  have e : ∀ j, zg (zs.set (m * 2 + 1) (pn + 1)) j = if m * 2 + 1 = j then pn + 1 else zg zs j := fun j => zg_set _ _ _ _ (by omega)
  have e' : ∀ j, 34 ≤ j → zg (zs.set (m * 2 + 1) (pn + 1)) j = zg zs j := fun j hj => by rw [e, if_neg (by omega)]
  have hm := h.rg m (by omega)
  have ht0 := h.top0
  have ef : ∀ k, zg (zs.set (m * 2 + 1) (pn + 1)) (k * 2) = zg zs (k * 2) := fun k => by rw [e, if_neg (by omega)]
  have et : ∀ k, zg (zs.set (m * 2 + 1) (pn + 1)) (k * 2 + 1) = if k = m then pn + 1 else zg zs (k * 2 + 1) := fun k => by
    rw [e]
    by_cases hk : k = m
    · rw [if_pos hk, if_pos (by omega)]
    · rw [if_neg hk, if_neg (by omega)]
  refine ⟨⟨by simp [hl], by rw [e' _ (by omega)]; exact h.many, hn, fun k hk => ?_, fun j k hj hk => ?_, by omega, by rw [e' _ (by omega)]; exact h.dl0, by rw [e' _ (by omega)]; exact h.dl1, by rw [e' _ (by omega)]; exact ⟨h.fl.1, by have := h.fl.2; omega⟩,
    by rw [e' _ (by omega)]; exact h.lg, by rw [e' _ (by omega)]; exact h.wh, by rw [e' _ (by omega)]; exact h.c0, by rw [e' _ (by omega)]; exact h.c1, by rw [e' _ (by omega)]; exact h.d0, by rw [e' _ (by omega)]; exact h.d1⟩, fun i => ?_⟩
  · rw [ef, et]
    have := h.rg k hk
    by_cases hk2 : k = m
    · subst hk2; rw [if_pos rfl]; omega
    · rw [if_neg hk2]; omega
  · rw [ef, et, if_neg (by omega)]
    exact h.gap j k hj hk
  · rw [Bool.eq_iff_iff, Bool.or_eq_true, covB_iff, covB_iff, decide_eq_true_eq]
    constructor
    · rintro ⟨k, hk, h1, h2⟩
      rw [ef] at h1
      rw [et] at h2
      by_cases hk2 : k = m
      · subst hk2
        rw [if_pos rfl] at h2
        by_cases hi : i = pn
        · exact .inr hi
        · exact .inl ⟨k, hk, h1, by omega⟩
      · rw [if_neg hk2] at h2
        exact .inl ⟨k, hk, h1, h2⟩
    · rintro (⟨k, hk, h1, h2⟩ | rfl)
      · refine ⟨k, hk, by rw [ef]; exact h1, ?_⟩
        rw [et]
        by_cases hk2 : k = m
        · subst hk2; rw [if_pos rfl]; omega
        · rw [if_neg hk2]; exact h2
      · refine ⟨m, by omega, by rw [ef]; omega, by rw [et, if_pos rfl]; omega⟩
/-- a new interval -/
theorem Tg.more (h : Tg zs n top lg wh few) (pn : Int) (hp : 0 ≤ pn) (ht : top ≤ pn) (hl2 : ∀ k, k < n → zg zs (k * 2 + 1) < pn) (hn16 : n < 17) :
    Tg (((zs.set (n * 2) pn).set (n * 2 + 1) (pn + 1)).set 34 ((n : Int) + 1)) (n + 1) (pn + 1) lg wh few ∧ ∀ i, covB (((zs.set (n * 2) pn).set (n * 2 + 1) (pn + 1)).set 34 ((n : Int) + 1)) (n + 1) i = (covB zs n i || decide (i = pn)) := by
  have hl := h.len
  have e : ∀ j, zg (((zs.set (n * 2) pn).set (n * 2 + 1) (pn + 1)).set 34 ((n : Int) + 1)) j = if 34 = j then (n : Int) + 1 else if n * 2 + 1 = j then pn + 1 else if n * 2 = j then pn else zg zs j := fun j => by
    rw [zg_set _ _ _ _ (by simp [hl]), zg_set _ _ _ _ (by simp [hl]; omega), zg_set _ _ _ _ (by omega)]
  have e' : ∀ j, 35 ≤ j → zg (((zs.set (n * 2) pn).set (n * 2 + 1) (pn + 1)).set 34 ((n : Int) + 1)) j = zg zs j := fun j hj => by rw [e, if_neg (by omega), if_neg (by omega), if_neg (by omega)]
  have ef : ∀ k, k ≤ n → zg (((zs.set (n * 2) pn).set (n * 2 + 1) (pn + 1)).set 34 ((n : Int) + 1)) (k * 2) = if k = n then pn else zg zs (k * 2) := fun k hk => by
    rw [e, if_neg (by omega), if_neg (by omega)]
    by_cases h2 : k = n
    · rw [if_pos h2, if_pos (by omega)]
    · rw [if_neg h2, if_neg (by omega)]
  have et : ∀ k, k ≤ n → zg (((zs.set (n * 2) pn).set (n * 2 + 1) (pn + 1)).set 34 ((n : Int) + 1)) (k * 2 + 1) = if k = n then pn + 1 else zg zs (k * 2 + 1) := fun k hk => by
    rw [e, if_neg (by omega)]
    by_cases h2 : k = n
    · rw [if_pos h2, if_pos (by omega)]
    · rw [if_neg h2, if_neg (by omega), if_neg (by omega)]
  have ht0 := h.top0
  refine ⟨⟨by simp [hl], by rw [e]; simp, by omega, fun k hk => ?_, fun j k hj hk => ?_, by omega, by rw [e' _ (by omega)]; exact h.dl0, by rw [e' _ (by omega)]; exact h.dl1, by rw [e' _ (by omega)]; exact ⟨h.fl.1, by have := h.fl.2; omega⟩,
    by rw [e' _ (by omega)]; exact h.lg, by rw [e' _ (by omega)]; exact h.wh, by rw [e' _ (by omega)]; exact h.c0, by rw [e' _ (by omega)]; exact h.c1, by rw [e' _ (by omega)]; exact h.d0, by rw [e' _ (by omega)]; exact h.d1⟩, fun i => ?_⟩
  · rw [ef k (by omega), et k (by omega)]
    by_cases hk2 : k = n
    · rw [if_pos hk2, if_pos hk2]; omega
    · rw [if_neg hk2, if_neg hk2]
      have := h.rg k (by omega)
      omega
  · rw [ef k (by omega), et j (by omega), if_neg (by omega)]
    by_cases hk2 : k = n
    · rw [if_pos hk2]; exact hl2 j (by omega)
    · rw [if_neg hk2]; exact h.gap j k hj (by omega)
  · rw [Bool.eq_iff_iff, Bool.or_eq_true, covB_iff, covB_iff, decide_eq_true_eq]
    constructor
    · rintro ⟨k, hk, h1, h2⟩
      rw [ef k (by omega)] at h1
      rw [et k (by omega)] at h2
      by_cases hk2 : k = n
      · rw [if_pos hk2] at h1 h2
        exact .inr (by omega)
      · rw [if_neg hk2] at h1 h2
        exact .inl ⟨k, by omega, h1, h2⟩
    · rintro (⟨k, hk, h1, h2⟩ | rfl)
      · exact ⟨k, by omega, by rw [ef k (by omega), if_neg (by omega)]; exact h1, by rw [et k (by omega), if_neg (by omega)]; exact h2⟩
      · exact ⟨n, by omega, by rw [ef n (by omega), if_pos rfl]; omega, by rw [et n (by omega), if_pos rfl]; omega⟩
/-- the first of 17 goes, the floor rises to its end -/
theorem Tg.drop (h : Tg zs 17 top lg wh few) : Tg ((downZ (zs.set 36 (zg zs 1))).set 34 16) 16 top lg wh few ∧ ∀ i, covB ((downZ (zs.set 36 (zg zs 1))).set 34 16) 16 i = true → covB zs 17 i = true := by
  have hl := h.len
  have hl2 : (zs.set 36 (zg zs 1)).length = 41 := by simp [hl]
  have e : ∀ j, zg ((downZ (zs.set 36 (zg zs 1))).set 34 16) j = if 34 = j then 16 else if j < 32 then zg zs (j + 2) else if 36 = j then zg zs 1 else zg zs j := fun j => by
    rw [zg_set _ _ _ _ (by rw [downZ_length hl2]; decide), downZ_get hl2]
    by_cases c : 34 = j
    · rw [if_pos c, if_pos c]
    · rw [if_neg c, if_neg c]
      by_cases c2 : j < 32
      · rw [if_pos c2, if_pos c2, zg_set _ _ _ _ (by rw [hl]; decide), if_neg (by omega)]
      · rw [if_neg c2, if_neg c2, zg_set _ _ _ _ (by rw [hl]; decide)]
  have el : ∀ j, j < 32 → zg ((downZ (zs.set 36 (zg zs 1))).set 34 16) j = zg zs (j + 2) := fun j hj => by rw [e, if_neg (by omega), if_pos hj]
  have er : ∀ j, 35 ≤ j → j ≠ 36 → zg ((downZ (zs.set 36 (zg zs 1))).set 34 16) j = zg zs j := fun j hj h6 => by rw [e, if_neg (by omega), if_neg (by omega), if_neg (by omega)]
  have r0 := h.rg 0 (by decide)
  simp only [Nat.zero_mul, Nat.zero_add] at r0
  refine ⟨⟨by simp [downZ_length hl2], by rw [e, if_pos rfl]; rfl, by decide, fun k hk => ?_, fun j k hj hk => ?_, h.top0, by rw [er _ (by omega) (by decide)]; exact h.dl0, by rw [er _ (by omega) (by decide)]; exact h.dl1, by rw [e, if_neg (by decide), if_neg (by decide), if_pos rfl]; omega,
    by rw [er _ (by omega) (by decide)]; exact h.lg, by rw [er _ (by omega) (by decide)]; exact h.wh, by rw [er _ (by omega) (by decide)]; exact h.c0, by rw [er _ (by omega) (by decide)]; exact h.c1, by rw [er _ (by omega) (by decide)]; exact h.d0, by rw [er _ (by omega) (by decide)]; exact h.d1⟩, fun i hi => ?_⟩
  · rw [el _ (by omega), el _ (by omega)]
    have := h.rg (k + 1) (by omega)
    rw [show (k + 1) * 2 = k * 2 + 2 by omega] at this
    exact this
  · rw [el _ (by omega), el _ (by omega)]
    have := h.gap (j + 1) (k + 1) (by omega) (by omega)
    rw [show (j + 1) * 2 + 1 = j * 2 + 1 + 2 by omega, show (k + 1) * 2 = k * 2 + 2 by omega] at this
    exact this
  · obtain ⟨k, hk, h1, h2⟩ := covB_iff.1 hi
    rw [el _ (by omega)] at h1 h2
    refine covB_iff.2 ⟨k + 1, by omega, ?_, ?_⟩
    · rw [show (k + 1) * 2 = k * 2 + 2 by omega]; exact h1
    · rw [show (k + 1) * 2 + 1 = k * 2 + 1 + 2 by omega]; exact h2
/-- the last interval stays -/
theorem Tg.drop_last (h : Tg zs 17 top lg wh few) {i : Int} (h1 : zg zs 32 ≤ i) (h2 : i < zg zs 33) : covB ((downZ (zs.set 36 (zg zs 1))).set 34 16) 16 i = true := by
  have hl2 : (zs.set 36 (zg zs 1)).length = 41 := by simp [h.len]
  refine covB_iff.2 ⟨15, by decide, ?_, ?_⟩
  · rw [zg_set _ _ _ _ (by rw [downZ_length hl2]; decide), if_neg (by decide), downZ_get hl2, if_pos (by decide), zg_set _ _ _ _ (by rw [h.len]; decide), if_neg (by decide)]; exact h1
  · rw [zg_set _ _ _ _ (by rw [downZ_length hl2]; decide), if_neg (by decide), downZ_get hl2, if_pos (by decide), zg_set _ _ _ _ (by rw [h.len]; decide), if_neg (by decide)]; exact h2
end Go.Proofs.YtpfkeohaaeiaaaaGreatDoor.frm
/- Acks: add of a Tracker whose numbers rise. Printed by gen/mkLkf.py. -/
namespace Go.Proofs.YtpfkeohaaeiaaaaGreatDoor.frm
open Go.RowKit Go.Sort
set_option maxRecDepth 100000
variable {zs : List Int} {n : Nat} {top lg wh few : Int}
/-- the intervals with one number more -/
def AddG (zs : List Int) (n t : Nat) (pn lg wh few : Int) (w w' : World) : Prop :=
  ∃ zs' n', n' ≤ n + 1 ∧ TkAt w' t zs' ∧ Tg zs' n' (pn + 1) lg wh few ∧ (∀ i, covB zs' n' i = (covB zs n i || decide (i = pn))) ∧ Tu t t w w'
theorem addG_any (t : Nat) (pn : Int) (w : World) (hT : TkAt w t zs) (ok : Tg zs n top lg wh few) (hn16 : n ≤ 16) (hp : top ≤ pn) (hp2 : pn ≤ 281474976710655) : Calls Tryz.prog 79 #[.pointer (some ⟨t, 0, none⟩), .int .i64 pn] w fun e w' => e = .returned (.tuple #[]) ∧ AddG zs n t pn lg wh few w w' := by
  have ht0 := ok.top0
  rcases Nat.eq_zero_or_pos n with h0 | h0
  · subst h0
    refine (add_new t 0 zs pn w hT (by decide) ok.many (fun k hk => by omega) (by omega) (by omega)).mono ?_
    rintro e w' ⟨rfl, h1, h2⟩
    obtain ⟨k1, k2⟩ := ok.more pn (by omega) hp (fun k hk => by omega) (by omega)
    exact ⟨rfl, _, _, by omega, h1, k1, k2, h2⟩
  · obtain ⟨m, rfl⟩ : ∃ m, n = m + 1 := ⟨n - 1, by omega⟩
    have hm := ok.rg m (by omega)
    by_cases he : zg zs (m * 2 + 1) = pn
    · refine (add_end t m zs pn w hT (by have := ok.le; omega) ok.many (fun k hk => ?_) he (by omega) (by omega)).mono ?_
      · have := ok.gap k m hk (by omega)
        show zg zs _ < pn
        omega
      · rintro e w' ⟨rfl, h1, h2⟩
        obtain ⟨k1, k2⟩ := ok.longer pn he hp
        exact ⟨rfl, _, _, by omega, h1, k1, k2, h2⟩
    · have hall : ∀ k, k < m + 1 → zg zs (k * 2 + 1) < pn := fun k hk => by
        by_cases h2 : k = m
        · subst h2; omega
        · have := ok.gap k m (by omega) (by omega); omega
      have hl1 := hall m (by omega)
      refine (add_new t (m + 1) zs pn w hT (by omega) ok.many hall (by omega) (by omega)).mono ?_
      rintro e w' ⟨rfl, h1, h2⟩
      obtain ⟨k1, k2⟩ := ok.more pn (by omega) hp hall (by omega)
      exact ⟨rfl, _, _, by omega, h1, k1, k2, h2⟩
/-- what Receive leaves -/
def RcvG (zs : List Int) (n t : Nat) (pn now few : Int) (w w' : World) : Prop :=
  ∃ zs' n', n' ≤ 16 ∧ TkAt w' t zs' ∧ Tg zs' n' (pn + 1) pn now (few + 1) ∧ (∀ i, covB zs' n' i = true → covB zs n i = true ∨ i = pn) ∧ covB zs' n' pn = true ∧ Tu t t w w'
theorem rest_addG {t : Nat} {pn now few : Int} {w w2 w' : World} {zs2 : List Int} {n2 : Nat} {lg wh : Int} (hcov : ∀ i, covB zs2 n2 i = true → covB zs n i = true ∨ i = pn) (hnew : covB zs2 n2 pn = true) (hn2 : n2 ≤ 16) (ok2 : Tg zs2 n2 (pn + 1) lg wh few) (ht2 : Tu t t w w2) (ht3 : Tu t t w2 w')
    (c d : Int) (hT : TkAt w' t ((((zs2.set 37 pn).set 38 now).set 39 c).set 40 d)) (hc0 : 0 ≤ c) (hc1 : c ≤ zg zs2 39 + 1) (hd0 : -1 ≤ d) (hd1 : d ≤ 4000000000000) : RcvG zs n t pn now few w w' := by
  obtain ⟨k1, k2⟩ := ok2.rest pn now c d hc0 (by have := ok2.c1; omega) hd0 hd1
  exact ⟨_, _, hn2, hT, k1, fun i hi => hcov i ((k2 i).symm.trans hi), (k2 pn).trans hnew, ht2.trans ht3⟩
end Go.Proofs.YtpfkeohaaeiaaaaGreatDoor.frm
/- Acks: Receive of a Tracker whose numbers rise. Printed by gen/mkLkg.py. -/
namespace Go.Proofs.YtpfkeohaaeiaaaaGreatDoor.frm
open Go.RowKit Go.Sort
set_option maxRecDepth 100000
variable {zs : List Int} {n : Nat} {top lg wh few : Int}
set_option maxRecDepth 100000 in
set_option maxHeartbeats 4000000 in
theorem recvG_any (t : Nat) (now pn : Int) (w : World) (hT : TkAt w t zs) (ok : Tg zs n top lg wh few) (hn16 : n ≤ 16) (hp : top ≤ pn) (hp2 : pn ≤ 1000000) (hlg0 : -1 ≤ lg) (hlg : lg < pn) (hn1 : 0 ≤ now) (hn2 : now ≤ 1099511627776) (hfew : few ≤ 1000000000) :
    Calls Tryz.prog 57 #[.pointer (some ⟨t, 0, none⟩), .int .i64 now, .int .i64 pn, .bool true] w fun e w' => e = .returned (.int .i64 0) ∧ RcvG zs n t pn now few w w' := by
  have ht0 := ok.top0
  have P58 := Lib.hid (has_any t n zs pn w hT (by have := ok.le; omega) ok.many)
  have HF := Lib.hid (show hasB pn (ivs zs n) = false from (hasB_cov zs n pn).trans (ok.not_cov hp))
  obtain ⟨f0, hf0⟩ : ∃ f0, zg zs 36 = f0 := ⟨_, rfl⟩
  have y36 := hT.zg 36 (by decide) hf0
  have a6 : (pn < f0) = False := eq_false (by have := ok.fl; omega)
  clear hf0
  have H0 := Lib.hid (And.intro hT ok)
  clear hT ok
  have a1 : (now < 0) = False := eq_false (by omega)
  have a2 : (1099511627776 < now) = False := eq_false (by omega)
  have a3 : (pn < 0) = False := eq_false (by omega)
  have a4 : (281474976710655 < pn) = False := eq_false (by omega)
  go_enter Tryz.func57, Tryz.ntmps57
  go_wp2_with fail
  refine P58.out.mono ?_
  rintro e w1 ⟨rfl, hb⟩
  rw [HF.out]
  have T1 := Lib.hid (And.intro (H0.out.1.block (hb.block t H0.out.1.lt)) hb)
  clear hb y36 a6
  go_wp2_with fail
  refine (addG_any t pn w1 T1.out.1 H0.out.2 hn16 hp (by omega)).mono ?_
  rintro e w2 ⟨rfl, zs2, n2, hn2', T2, ok2, hcov2, ht2'⟩
  have ht2 := (Tu.below (M := t) (b := t) T1.out.2).trans ht2'
  clear ht2' T1 H0 P58 HF
  have hnew : covB zs2 n2 pn = true := by rw [hcov2, decide_eq_true rfl, Bool.or_true]
  have hcov : ∀ i, covB zs2 n2 i = true → covB zs n i = true ∨ i = pn := fun i hi => by
    rw [hcov2, Bool.or_eq_true, decide_eq_true_eq] at hi; exact hi
  by_cases h16 : n2 ≤ 16
  · have hnn := Lib.hid h16
    have a5 : (16 < (n2 : Int)) = False := eq_false (by omega)
    clear hcov2
    have y34 := T2.zg 34 (by decide) ok2.many
    have y37 := T2.zg 37 (by decide) ok2.lg
    have z37 := T2.frozen 37
    have z38 := T2.frozen 38
    have y38 := T2.zg 38 (by decide) ok2.wh
    have H2 := Lib.hid (And.intro T2 (And.intro ok2 (And.intro hcov (And.intro hnew ht2))))
    clear T2 ok2 hcov hnew ht2
    have ST : ∀ od, Hid (Calls Tryz.prog 81 #[.pointer (some ⟨t, 0, none⟩), .int .i64 now, .bool od] ((w2.setCell ⟨t, 37, none⟩ (.int .i64 pn)).setCell ⟨t, 38, none⟩ (.int .i64 now)) fun e w' => e = .returned (.tuple #[]) ∧ RcvG zs n t pn now few w w') := fun od => by
      obtain ⟨T2, ok2, hcov, hnew, ht2⟩ := H2.out
      have e : ∀ j, 39 ≤ j ∨ j = 35 → ((zs2.set 37 pn).set 38 now)[j]?.getD (0:Int) = zg zs2 j := fun j hj => by
        show zg _ j = _
        rw [zg_set _ _ _ _ (by simp [ok2.len]), zg_set _ _ _ _ (by simp [ok2.len]), if_neg (by omega), if_neg (by omega)]
      refine Lib.hid ((sched_any t ((zs2.set 37 pn).set 38 now) now od _ ((T2.set 37 pn).set 38 now) _ (e 35 (.inr rfl)) ok2.dl0 ok2.dl1 _ (e 39 (.inl (by decide))) ok2.c0 (by have := ok2.c1; omega) _ (e 40 (.inl (by decide))) ok2.d0 ok2.d1 hn1 hn2).mono ?_)
      rintro e1 w' ⟨rfl, c, d, h1, h2, h3, h4, h5, h6⟩
      rw [e 39 (.inl (by decide))] at h3
      exact ⟨rfl, rest_addG hcov hnew hnn.out ok2 ht2 (((Tu.set _ _ _).trans (Tu.set _ _ _)).trans h6) c d h1 h2 h3 h4 h5⟩
    by_cases hl : lg = -1
    · subst hl
      have ST := (ST true)
      go_wp2_with fail
      refine ST.out.mono ?_
      rintro e w3 ⟨rfl, h⟩
      have H3 := Lib.hid h
      clear h ST
      go_wp2
      go_ret
      exact ⟨rfl, H3.out⟩
    · have hl' : (lg == -1) = false := beq_eq_false_iff_ne.2 hl
      clear hl
      by_cases hq : pn = lg + 1
      · have hq' : (pn == lg + 1) = true := by rw [hq]; simp
        have ST := (ST true)
        clear hq
        go_wp2_with fail
        refine ST.out.mono ?_
        rintro e w3 ⟨rfl, h⟩
        have H3 := Lib.hid h
        clear h ST
        go_wp2
        go_ret
        exact ⟨rfl, H3.out⟩
      · have hq' : (pn == lg + 1) = false := beq_eq_false_iff_ne.2 hq
        have ST := (ST false)
        clear hq
        go_wp2_with fail
        refine ST.out.mono ?_
        rintro e w3 ⟨rfl, h⟩
        have H3 := Lib.hid h
        clear h ST
        go_wp2
        go_ret
        exact ⟨rfl, H3.out⟩
  · obtain rfl : n2 = 17 := by omega
    have hnn := Lib.hid (show 16 ≤ 16 from Nat.le_refl _)
    obtain ⟨k1, k2⟩ := ok2.drop
    have hlast := ok2.rg 16 (by decide)
    have hnew3 : covB ((downZ (zs2.set 36 (zg zs2 1))).set 34 16) 16 pn = true := by
      obtain ⟨k, hk, h1, h2⟩ := covB_iff.1 hnew
      have : k = 16 := by
        rcases Nat.lt_or_ge k 16 with e | e
        · exfalso
          have := ok2.gap k 16 e (by decide)
          omega
        · omega
      subst this
      exact ok2.drop_last h1 h2
    have HK := Lib.hid (And.intro k1 (And.intro (show ∀ i, covB ((downZ (zs2.set 36 (zg zs2 1))).set 34 16) 16 i = true → covB zs n i = true ∨ i = pn from fun i hi => hcov i (k2 i hi)) (And.intro hnew3 ht2)))
    have y34 := T2.zg 34 (by decide) ok2.many
    have y1 := T2.zg 1 (by decide) rfl
    have z36 := T2.frozen 36
    have y36 := T2.zg 36 (by decide) rfl
    have RF := Lib.hid (remove_first t (zs2.set 36 (zg zs2 1)) _ (T2.set 36 (zg zs2 1)) (by
      have e := zg_set zs2 36 34 (zg zs2 1) (by rw [ok2.len]; decide)
      rw [if_neg (by decide)] at e
      exact e.trans ok2.many))
    clear k1 k2 hnew3 ht2 hcov hcov2 hnew T2 ok2 hlast h16
    go_wp2_with fail
    refine RF.out.mono ?_
    rintro e w3 ⟨rfl, T2, ht3⟩
    obtain ⟨ok2, hcov, hnew, ht2'⟩ := HK.out
    have ht2 := (ht2'.trans (Tu.set _ _ _)).trans ht3
    clear ht2' ht3 RF HK y34 y1 z36 y36
    generalize (downZ (zs2.set 36 (zg zs2 1))).set 34 16 = zs3 at *
    have y34 := T2.zg 34 (by decide) ok2.many
    have y37 := T2.zg 37 (by decide) ok2.lg
    have z37 := T2.frozen 37
    have z38 := T2.frozen 38
    have y38 := T2.zg 38 (by decide) ok2.wh
    have H2 := Lib.hid (And.intro T2 (And.intro ok2 (And.intro hcov (And.intro hnew ht2))))
    clear T2 ok2 hcov hnew ht2
    have ST : ∀ od, Hid (Calls Tryz.prog 81 #[.pointer (some ⟨t, 0, none⟩), .int .i64 now, .bool od] ((w3.setCell ⟨t, 37, none⟩ (.int .i64 pn)).setCell ⟨t, 38, none⟩ (.int .i64 now)) fun e w' => e = .returned (.tuple #[]) ∧ RcvG zs n t pn now few w w') := fun od => by
      obtain ⟨T2, ok2, hcov, hnew, ht2⟩ := H2.out
      have e : ∀ j, 39 ≤ j ∨ j = 35 → ((zs3.set 37 pn).set 38 now)[j]?.getD (0:Int) = zg zs3 j := fun j hj => by
        show zg _ j = _
        rw [zg_set _ _ _ _ (by simp [ok2.len]), zg_set _ _ _ _ (by simp [ok2.len]), if_neg (by omega), if_neg (by omega)]
      refine Lib.hid ((sched_any t ((zs3.set 37 pn).set 38 now) now od _ ((T2.set 37 pn).set 38 now) _ (e 35 (.inr rfl)) ok2.dl0 ok2.dl1 _ (e 39 (.inl (by decide))) ok2.c0 (by have := ok2.c1; omega) _ (e 40 (.inl (by decide))) ok2.d0 ok2.d1 hn1 hn2).mono ?_)
      rintro e1 w' ⟨rfl, c, d, h1, h2, h3, h4, h5, h6⟩
      rw [e 39 (.inl (by decide))] at h3
      exact ⟨rfl, rest_addG hcov hnew hnn.out ok2 ht2 (((Tu.set _ _ _).trans (Tu.set _ _ _)).trans h6) c d h1 h2 h3 h4 h5⟩
    by_cases hl : lg = -1
    · subst hl
      have ST := (ST true)
      go_wp2_with fail
      refine ST.out.mono ?_
      rintro e w3 ⟨rfl, h⟩
      have H3 := Lib.hid h
      clear h ST
      go_wp2
      go_ret
      exact ⟨rfl, H3.out⟩
    · have hl' : (lg == -1) = false := beq_eq_false_iff_ne.2 hl
      clear hl
      by_cases hq : pn = lg + 1
      · have hq' : (pn == lg + 1) = true := by rw [hq]; simp
        have ST := (ST true)
        clear hq
        go_wp2_with fail
        refine ST.out.mono ?_
        rintro e w3 ⟨rfl, h⟩
        have H3 := Lib.hid h
        clear h ST
        go_wp2
        go_ret
        exact ⟨rfl, H3.out⟩
      · have hq' : (pn == lg + 1) = false := beq_eq_false_iff_ne.2 hq
        have ST := (ST false)
        clear hq
        go_wp2_with fail
        refine ST.out.mono ?_
        rintro e w3 ⟨rfl, h⟩
        have H3 := Lib.hid h
        clear h ST
        go_wp2
        go_ret
        exact ⟨rfl, H3.out⟩
end Go.Proofs.YtpfkeohaaeiaaaaGreatDoor.frm
/- Acks: Frame of a Tracker in general. Printed by gen/mkLkh.py. -/
namespace Go.Proofs.YtpfkeohaaeiaaaaGreatDoor.frm
open Go.RowKit Go.Sort Go.Shelf
attribute [local go_sem] Oper.semAt_some
set_option maxRecDepth 100000
variable {zs : List Int} {n : Nat} {top lg wh few : Int}
set_option maxRecDepth 100000 in
set_option maxHeartbeats 4000000 in
theorem frameG_any (t : Nat) (now : Int) (w : World) (hT : TkAt w t zs) (ok : Tg zs n top lg wh few) (hn16 : n ≤ 16) (hn : 1 ≤ n) (hn1 : 0 ≤ now) (hn2 : now ≤ 1099511627776) (hwh : 0 ≤ wh) (hwh2 : wh ≤ 1099511627776) :
    Calls Tryz.prog 59 #[.pointer (some ⟨t, 0, none⟩), .int .i64 now] w (FrPost zs n (if wh < now then now - wh else 0) w) := by
  have MK := mk_row zs n hn hn16
  have c34 := hT.zg 34 (by decide) ok.many
  have c38 := hT.zg 38 (by decide) ok.wh
  obtain ⟨row, hrow⟩ : ∃ row, row = (scs (rowK zs n 0)).toArray := ⟨_, rfl⟩
  rw [← hrow] at MK
  have HR := Lib.hid hrow
  clear hrow
  have X := Lib.hid (boxes4 w (.cells #[.pointer (some ⟨t, 0, none⟩)] 32) (.cells #[.int .i64 0, .int .i64 0, .int .i64 0, .string ⟨#[]⟩, .bool false, .int .i64 0, .int .i64 0, .bool false, .int .i64 0, .slice none 0 0, .int .i64 0, .int .i64 0, .string ⟨#[]⟩] 56) (.cells row 103) (.cells (ackE 0 (.slice (some ⟨w.heap.size + 2, 0, none⟩) n n)) 56))
  have hlt := hT.lt
  have fn : ∀ o : Obj, Hid (∀ i v, w.cell? ⟨t, i, none⟩ = some v → (w.alloc o).cell? ⟨t, i, none⟩ = some v) := fun o => Lib.hid (fun i v h => cell_alloc_l o h)
  have y34 := cell_alloc_l (.cells #[.int .i64 0, .int .i64 0, .int .i64 0, .string ⟨#[]⟩, .bool false, .int .i64 0, .int .i64 0, .bool false, .int .i64 0, .slice none 0 0, .int .i64 0, .int .i64 0, .string ⟨#[]⟩] 56) (cell_alloc_l (.cells #[.pointer (some ⟨t, 0, none⟩)] 32) c34)
  have y38 := cell_alloc_l (.cells (ackE 0 (.slice (some ⟨w.heap.size + 2, 0, none⟩) n n)) 56) (cell_alloc_l (.cells row 103) (cell_alloc_l (.cells #[.int .i64 0, .int .i64 0, .int .i64 0, .string ⟨#[]⟩, .bool false, .int .i64 0, .int .i64 0, .bool false, .int .i64 0, .slice none 0 0, .int .i64 0, .int .i64 0, .string ⟨#[]⟩] 56) (cell_alloc_l (.cells #[.pointer (some ⟨t, 0, none⟩)] 32) c38)))
  simp only [ackE] at y38
  have HT := Lib.hid (And.intro hT ok)
  have n0 : ((n : Int) == 0) = false := beq_eq_false_iff_ne.2 (by omega)
  clear hT ok c34 c38 fn
  refine (callsIn_wide (n := 8)).1 ?_
  refine callsIn_of_wp_marks Tryz.func59 rfl trivial ?_ rfl
  simp only [Tryz.ntmps59, List.size_toArray, List.length_cons, List.length_nil, Nat.reduceAdd, Nat.reduceSub, Array.replicate_succ, Array.replicate_zero, List.push_toArray, List.append_toArray, List.nil_append, List.cons_append]
  by_cases hd : wh < now
  · rw [if_pos hd]
    gi_wp2_with (refine ⟨trivial, (callsIn_wide.2 (all62 _ _)).mono ?_⟩; rintro e w' ⟨rfl, rfl⟩)
    generalize hW0 : ((((w.alloc _).alloc _).alloc _).alloc _).alloc _ = W0
    have X := Lib.hid (hW0 ▸ boxes5 w _ _ _ _ _)
    clear hW0
    obtain ⟨X0, X1, X2, X3, X4, X5, X6⟩ := X.out
    have HB := Lib.hid (And.intro X5 X6)
    clear X y34 y38
    refine wpIn_rangeFunc_ownH rfl (by decide) (gf := 116) (lb := #[.pointer (some ⟨w.heap.size + 1 + 1 + 1 + 1, 0, none⟩)]) rfl trivial (enters_of Tryz.func116 (by kernel_rfl) rfl)
      (iv_stopsS 7 (by decide) (w.heap.size + 1 + 1 + 1 + 1) t n zs (by omega) W0 (by have := HB.out.2; omega) (at_whole X4 0 rfl) (HT.out.1.block (HB.out.1.block t HT.out.1.lt)) HT.out.2.many)
      (fun h k => h.trans k) (kpT_b (by have := HB.out.2; omega) (by have := HB.out.2; omega)) (Below.refl _ _) (fun _ => rfl)
      (fun (pre : List (InIv zs n)) W => (W.heap[w.heap.size]? = some (.cells #[.pointer (some ⟨t, 0, none⟩)] 32 (0, 0)) ∧ (W.heap[w.heap.size + 1]? = some (.cells #[.int .i64 0, .int .i64 0, .int .i64 0, .string ⟨#[]⟩, .bool false, .int .i64 0, .int .i64 0, .bool false, .int .i64 0, .slice none 0 0, .int .i64 0, .int .i64 0, .string ⟨#[]⟩] 56 (0, 0)) ∧ (W.heap[w.heap.size + 1 + 1 + 1]? = some (.cells #[.int .i64 2, .int .i64 0, .int .i64 0, .string ⟨#[]⟩, .bool false, .int .i64 0, .int .i64 0, .bool false, .int .i64 (now - wh), .slice (some ⟨w.heap.size + 1 + 1, 0, none⟩) n n, .int .i64 0, .int .i64 0, .string ⟨#[]⟩] 56 (0, 0)) ∧ (W.heap[w.heap.size + 1 + 1 + 1 + 1]? = some (.cells #[.pointer (some ⟨t, 0, none⟩)] 176 (0, 0)) ∧ W.heap[w.heap.size + 1 + 1]? = some (.cells (scs (rowP zs n (pre.map (·.1)))).toArray 103 (0, 0)))))) ∧ Below w.heap.size w W)
      (fun _ _ _ => False)
      (OwnFrom.and (OwnFrom.and (heap_own _ _ _ _) (OwnFrom.and (heap_own _ _ _ _) (OwnFrom.and (heap_own _ _ _ _) (OwnFrom.and (heap_own _ _ _ _) (fun s A C row hs hg hr => heap_own _ _ _ _ () A C row hs hg hr))))) (ownFrom_below (Nat.le_refl _) (by have := HB.out.2; omega)))
      (fun _ _ _ _ _ hs _ _ => hs)
      ⟨⟨X0, X1, X3, X4, HR.out ▸ X2⟩, HB.out.1⟩
      (fun x a' W => ∃ Bx, W0.heap.size ≤ Bx ∧ W.heap[Bx]? = some (.cells #[.int .i64 x.1.2.1, .int .i64 x.1.2.2] 103 (0, 0)) ∧ a' = { tmps := #[Value.pointer (some ⟨t, 0, none⟩), .int .i64 now, .pointer (some ⟨w.heap.size, 0, none⟩), undef, .pointer (some ⟨w.heap.size + 1, 0, none⟩), .bool false, .pointer (some ⟨w.heap.size + 1 + 1 + 1, 0, none⟩), .int .i64 x.1.1, .pointer (some ⟨Bx, 0, none⟩), Value.pointer (some ⟨t, 0, none⟩), .bool false, .bool false, Value.pointer (some ⟨t, 0, none⟩), Value.pointer (some ⟨t, 0, none⟩), Value.pointer (some ⟨t, 0, none⟩), .pointer (some ⟨t, 34, none⟩), .int .i64 n, .bool false, .bool false, undef, Value.pointer (some ⟨t, 0, none⟩), Value.pointer (some ⟨t, 0, none⟩), Value.pointer (some ⟨t, 0, none⟩), .pointer (some ⟨t, 34, none⟩), .int .i64 n, .slice (some ⟨w.heap.size + 1 + 1, 0, none⟩) n n, .agg #[.int .i64 2, .int .i64 0, .int .i64 0, .string ⟨#[]⟩, .bool false, .int .i64 0, .int .i64 0, .bool false, .int .i64 0, .slice (some ⟨w.heap.size + 1 + 1, 0, none⟩) n n, .int .i64 0, .int .i64 0, .string ⟨#[]⟩], .int .i64 now, Value.pointer (some ⟨t, 0, none⟩), Value.pointer (some ⟨t, 0, none⟩), .pointer (some ⟨t, 38, none⟩), .int .i64 wh, .bool true, .int .i64 now, Value.pointer (some ⟨t, 0, none⟩), Value.pointer (some ⟨t, 0, none⟩), .pointer (some ⟨t, 38, none⟩), .int .i64 wh, .int .i64 (now - wh), .pointer (some ⟨w.heap.size + 1 + 1 + 1, 8, none⟩), Value.pointer (some ⟨t, 0, none⟩), Value.pointer (some ⟨t, 0, none⟩), Value.pointer (some ⟨t, 0, none⟩), .func (.func 116) #[] #[.pointer (some ⟨w.heap.size + 1 + 1 + 1 + 1, 0, none⟩)], .int .i64 x.1.1, .agg #[.int .i64 x.1.2.1, .int .i64 x.1.2.2], undef, undef, undef, undef, undef, undef, undef, undef, undef, undef, undef, undef, undef], defers := [] })
      (fun x a' s A C row hs hg hr => by
        obtain ⟨Bx, h1, h2, h3⟩ := hs
        exact ⟨Bx, h1, heap_own _ _ _ _ () A C row h2 hg hr, h3⟩)
      ?assign ?body ?done ?stop
    case assign =>
      rintro ly pre ⟨⟨k, f, tt⟩, hx⟩ W K hi hK
      simp only [encIv] at hK ⊢
      have H1 := Lib.hid (And.intro hi hK)
      clear hi hK
      gi_wp2
      obtain ⟨⟨q0, q1, q2, q3, q4⟩, q5⟩ := H1.out.1
      have hs := heap_lt q3
      have ht := HT.out.1.lt
      have hz := HB.out.2
      refine H1.out.2 _ _ ((KeepsOthers.alloc _ _).from _) (KpT.below ((Below.refl _ W).alloc (Nat.le_refl _) _) (by omega) (by omega)) ?_ ⟨W.heap.size, by omega, heap_alloc_new W _, rfl⟩
      exact ⟨⟨(Below.heap_alloc W _ _ (heap_lt q0)).trans q0, (Below.heap_alloc W _ _ (heap_lt q1)).trans q1, (Below.heap_alloc W _ _ (heap_lt q2)).trans q2, (Below.heap_alloc W _ _ (heap_lt q3)).trans q3, (Below.heap_alloc W _ _ (heap_lt q4)).trans q4⟩, q5.trans ((Below.refl _ W).alloc q5.size _)⟩
    case body =>
      rintro ly pre ⟨⟨k, f, tt⟩, hx⟩ a' W hl ⟨r, hr⟩ ⟨⟨q0, q1, q2, q3, q4⟩, q5⟩ ⟨Bx, hBx, hbx, rfl⟩ hlen
      simp only at hbx ⊢
      have hkn : k < n := mem_ivs hx
      have l0 := at_whole hbx 0 rfl
      have l1 := at_whole hbx 1 rfl
      have c0 := at_whole q0 0 rfl
      have c9 := at_whole q2 9 rfl
      simp only [List.getElem_toArray, List.getElem_cons_zero, List.getElem_cons_succ] at l0 l1 c0 c9
      have RL := rowP_len zs n (pre.map (·.1))
      have SL : (scs (rowP zs n (pre.map (·.1)))).length = n * 2 := by rw [scs_length, RL]
      have T1 := HT.out.1.block (q5.block t HT.out.1.lt)
      have y34 := T1.zg 34 (by decide) HT.out.2.many
      obtain ⟨j, hj⟩ : ∃ j, j = n - 1 - k := ⟨_, rfl⟩
      have d0 : ∃ v, W.cell? ⟨w.heap.size + 1 + 1, j * 2, none⟩ = some v := ⟨_, at_whole q4 (j * 2) (by rw [List.getElem?_toArray, List.getElem?_eq_getElem (by omega)])⟩
      have d1 : ∃ v, W.cell? ⟨w.heap.size + 1 + 1, j * 2 + 1, none⟩ = some v := ⟨_, at_whole q4 (j * 2 + 1) (by rw [List.getElem?_toArray, List.getElem?_eq_getElem (by omega)])⟩
      obtain ⟨v0, d0⟩ := d0
      obtain ⟨v1, d1⟩ := d1
      have z0 := frozen_of_row W (w.heap.size + 1 + 1) (j * 2) _ 103 q4
      have z1 := frozen_of_row W (w.heap.size + 1 + 1) (j * 2 + 1) _ 103 q4
      have AS := Lib.hid (show rowP zs n ((pre ++ [(⟨(k, f, tt), hx⟩ : InIv zs n)]).map (·.1)) = (rowP zs n (pre.map (·.1))).set j (f, tt) by rw [List.map_append, hj]; exact rowP_snoc zs n (pre.map (·.1)) (k, f, tt))
      have e1 : IntKind.i64.wrap ((n : Int) - 1) = (n : Int) - 1 := IntWalk.i64_in _ (by omega)
      have e2 : IntKind.i64.wrap ((n : Int) - 1 - (k : Int)) = (j : Int) := by rw [IntWalk.i64_in _ (by omega)]; omega
      have e3 : (0 : Int) ≤ (j : Int) := by omega
      have e4 : (j : Int) < (n : Int) := by omega
      have G := Lib.hid (And.intro (And.intro q0 (And.intro q1 (And.intro q2 (And.intro q3 q4)))) (And.intro q5 (And.intro RL (And.intro SL hj))))
      clear q0 q1 q2 q3 q4 q5 hbx T1 RL SL hj
      gi_wp2
      refine pure_region 46 12 (fun i => (#[.pointer (some ⟨w.heap.size + 1 + 1 + 1, 9, none⟩), .slice (some ⟨w.heap.size + 1 + 1, 0, none⟩) n n, .pointer (some ⟨t, 0, none⟩), .pointer (some ⟨t, 0, none⟩), .pointer (some ⟨t, 0, none⟩), .pointer (some ⟨t, 34, none⟩), .int .i64 n, .int .i64 ((n : Int) - 1), .int .i64 k, .int .i64 j, .agg #[.int .i64 f, .int .i64 tt], .pointer (some ⟨w.heap.size + 1 + 1, j * 2, none⟩)] : Array Value)[i]?.getD undef) (W1 := (W.drew.setCell ⟨w.heap.size + 1 + 1, j * 2, none⟩ (.int .i64 f)).setCell ⟨w.heap.size + 1 + 1, j * 2 + 1, none⟩ (.int .i64 tt)) rfl (by kernel_rfl) (by kernel_rfl) rfl (by simp) ?_ ?_ rfl ?_
      · rintro i o hi ho a ⟨hold, hdep⟩
        have o2 := hold 2 (by decide)
        have o6 := hold 6 (by decide)
        have o7 := hold 7 (by decide)
        have o8 := hold 8 (by decide)
        simp at o2 o6 o7 o8
        have hi12 : i = 0 ∨ i = 1 ∨ i = 2 ∨ i = 3 ∨ i = 4 ∨ i = 5 ∨ i = 6 ∨ i = 7 ∨ i = 8 ∨ i = 9 ∨ i = 10 ∨ i = 11 := by omega
        rcases hi12 with rfl | rfl | rfl | rfl | rfl | rfl | rfl | rfl | rfl | rfl | rfl | rfl
        all_goals (cases ho; simp [Region.binds] at hdep; refine ⟨rfl, rfl, fun _ hf => ?_, ?_⟩)
        all_goals first | (exact absurd hf (by simp [Oper.about])) | skip
        · simp [go_sem, Act.eval, o6]
        all_goals clear G AS HR X X0 X1 X2 X3 X4 X5 X6 MK hold
        all_goals (simp [go_sem, Act.eval, hdep, o2, o7, o8, c0, c9, y34, l0, l1, e1, e2, e3, e4]; done)
      · rintro o ho a ⟨hold, hdep⟩
        cases ho
        simp [Region.binds] at hdep
        clear G AS HR X X0 X1 X2 X3 X4 X5 X6 MK hold
        refine ⟨rfl, rfl, fun _ hf => absurd hf (by simp [Oper.about]), ?_⟩
        simp [go_sem, Act.eval, hdep, d0, d1, z0, z1]
      · obtain ⟨⟨q0, q1, q2, q3, q4⟩, q5, hRL, hSL, hj⟩ := G.out
        have hbz := heap_lt q4
        have hlt2 := HT.out.1.lt
        refine ⟨(((KeepsOthers.drew W).trans (KeepsOthers.setCell _ _ _)).trans (KeepsOthers.setCell _ _ _)).from _, ?_, ?_⟩
        all_goals have e0 : ∀ i, i ≠ w.heap.size + 1 + 1 → ((W.drew.setCell ⟨w.heap.size + 1 + 1, j * 2, none⟩ (.int .i64 f)).setCell ⟨w.heap.size + 1 + 1, j * 2 + 1, none⟩ (.int .i64 tt)).heap[i]? = W.heap[i]? := fun i hi => (heap_setCell_other _ ⟨w.heap.size + 1 + 1, j * 2 + 1, none⟩ i _ hi).trans (heap_setCell_other _ ⟨w.heap.size + 1 + 1, j * 2, none⟩ i _ hi)
        · exact ⟨e0 _ (by omega), e0 _ (by omega)⟩
        · refine ⟨⟨(e0 _ (by omega)).trans q0, (e0 _ (by omega)).trans q1, (e0 _ (by omega)).trans q2, (e0 _ (by omega)).trans q3, ?_⟩, (q5.drew.setCell (p := ⟨w.heap.size + 1 + 1, j * 2, none⟩) (by simp; omega) _).setCell (p := ⟨w.heap.size + 1 + 1, j * 2 + 1, none⟩) (by simp; omega) _⟩
          rw [AS.out, scs_set _ _ _ _ (by rw [hRL]; omega)]
          rw [heap_setCell_same _ _ _ _ 103 _ (heap_setCell_same W.drew _ _ _ 103 _ q4)]
          simp
    case done =>
      rename_i K0 hK0
      rintro D ys W hD hys ⟨⟨q0, q1, q2, q3, q4⟩, q5⟩ hK
      rw [hys, rowP_ivs zs n n (Nat.le_refl _)] at q4
      have H := Lib.hid (And.intro (And.intro q1 (And.intro q2 q4)) (And.intro q5 hK))
      clear q0 q1 q2 q3 q4 q5 hK hys
      refine hK0 _ _ (wpIn_wide.2 ?_)
      clear hK0
      have Hq := H.out.1.2.1
      have Hq1 := H.out.1.1
      go_wp2_with (first | (refine wpList_load_row rfl 56 _ rfl (w.heap.size + 1 + 1 + 1) rfl 56 _ (0, 0) _ Hq Tryz.underlying56 rfl size56 ?_) | (refine wpList_store_row rfl 56 _ _ rfl (w.heap.size + 1) _ rfl rfl 56 _ Hq1 size56 rfl (by simp [Value.oneCell']) ?_))
      have hz := HB.out.2
      have hD1 : D ≠ w.heap.size + 1 := by omega
      have hD2 : w.heap.size + 1 ≠ D := by omega
      have hD3 : w.heap.size + 1 + 1 ≠ D := by omega
      have hDK : (W.setRow (w.heap.size + 1) (ackE (now - wh) (.slice (some ⟨w.heap.size + 1 + 1, 0, none⟩) n n))).heap[D]? = some (.deferred (some [])) := (setRow_other _ _ _ _ hD1).trans H.out.2.2
      refine ⟨by simp, .inl ⟨_, _, rfl, run_takeDeferred hDK, ?_⟩⟩
      refine ⟨_, results_cell_tmpS rfl _ _ (w.heap.size + 1) 56 _ (0, 0) _ rfl ((World.putObj_heap_other hD2).trans (setRow_heap _ _ _ _ _ _ Hq1)) Tryz.underlying56 rfl size56, w.heap.size + 1 + 1, rfl, ⟨by rw [scs_length, rowK_len], .inr ⟨_, n, _, rfl, by omega, (World.putObj_heap_other hD3).trans ((setRow_other _ _ _ _ (by omega)).trans H.out.1.2.2), Nat.le_refl _, by unfold maxLen; omega, by simp [scs_length, rowK_len], by rw [List.take_of_length_le (by simp [scs_length, rowK_len])]⟩⟩, ?_⟩
      exact (H.out.2.1.grown (grown_setRow W _ _) H.out.2.1.size (fun k e => by cases e; omega)).trans (belowK_b (w := w) (Nat.le_refl _) _ D _ _ (by omega) hDK rfl rfl)
    case stop =>
      rintro D c pre W _ _ h _
      exact h.elim
  · rw [if_neg hd]
    gi_wp2_with (refine ⟨trivial, (callsIn_wide.2 (all62 _ _)).mono ?_⟩; rintro e w' ⟨rfl, rfl⟩)
    generalize hW0 : ((((w.alloc _).alloc _).alloc _).alloc _).alloc _ = W0
    have X := Lib.hid (hW0 ▸ boxes5 w _ _ _ _ _)
    clear hW0
    obtain ⟨X0, X1, X2, X3, X4, X5, X6⟩ := X.out
    have HB := Lib.hid (And.intro X5 X6)
    clear X y34 y38
    refine wpIn_rangeFunc_ownH rfl (by decide) (gf := 116) (lb := #[.pointer (some ⟨w.heap.size + 1 + 1 + 1 + 1, 0, none⟩)]) rfl trivial (enters_of Tryz.func116 (by kernel_rfl) rfl)
      (iv_stopsS 7 (by decide) (w.heap.size + 1 + 1 + 1 + 1) t n zs (by omega) W0 (by have := HB.out.2; omega) (at_whole X4 0 rfl) (HT.out.1.block (HB.out.1.block t HT.out.1.lt)) HT.out.2.many)
      (fun h k => h.trans k) (kpT_b (by have := HB.out.2; omega) (by have := HB.out.2; omega)) (Below.refl _ _) (fun _ => rfl)
      (fun (pre : List (InIv zs n)) W => (W.heap[w.heap.size]? = some (.cells #[.pointer (some ⟨t, 0, none⟩)] 32 (0, 0)) ∧ (W.heap[w.heap.size + 1]? = some (.cells #[.int .i64 0, .int .i64 0, .int .i64 0, .string ⟨#[]⟩, .bool false, .int .i64 0, .int .i64 0, .bool false, .int .i64 0, .slice none 0 0, .int .i64 0, .int .i64 0, .string ⟨#[]⟩] 56 (0, 0)) ∧ (W.heap[w.heap.size + 1 + 1 + 1]? = some (.cells #[.int .i64 2, .int .i64 0, .int .i64 0, .string ⟨#[]⟩, .bool false, .int .i64 0, .int .i64 0, .bool false, .int .i64 0, .slice (some ⟨w.heap.size + 1 + 1, 0, none⟩) n n, .int .i64 0, .int .i64 0, .string ⟨#[]⟩] 56 (0, 0)) ∧ (W.heap[w.heap.size + 1 + 1 + 1 + 1]? = some (.cells #[.pointer (some ⟨t, 0, none⟩)] 176 (0, 0)) ∧ W.heap[w.heap.size + 1 + 1]? = some (.cells (scs (rowP zs n (pre.map (·.1)))).toArray 103 (0, 0)))))) ∧ Below w.heap.size w W)
      (fun _ _ _ => False)
      (OwnFrom.and (OwnFrom.and (heap_own _ _ _ _) (OwnFrom.and (heap_own _ _ _ _) (OwnFrom.and (heap_own _ _ _ _) (OwnFrom.and (heap_own _ _ _ _) (fun s A C row hs hg hr => heap_own _ _ _ _ () A C row hs hg hr))))) (ownFrom_below (Nat.le_refl _) (by have := HB.out.2; omega)))
      (fun _ _ _ _ _ hs _ _ => hs)
      ⟨⟨X0, X1, X3, X4, HR.out ▸ X2⟩, HB.out.1⟩
      (fun x a' W => ∃ Bx, W0.heap.size ≤ Bx ∧ W.heap[Bx]? = some (.cells #[.int .i64 x.1.2.1, .int .i64 x.1.2.2] 103 (0, 0)) ∧ a' = { tmps := #[Value.pointer (some ⟨t, 0, none⟩), .int .i64 now, .pointer (some ⟨w.heap.size, 0, none⟩), undef, .pointer (some ⟨w.heap.size + 1, 0, none⟩), .bool false, .pointer (some ⟨w.heap.size + 1 + 1 + 1, 0, none⟩), .int .i64 x.1.1, .pointer (some ⟨Bx, 0, none⟩), Value.pointer (some ⟨t, 0, none⟩), .bool false, .bool false, Value.pointer (some ⟨t, 0, none⟩), Value.pointer (some ⟨t, 0, none⟩), Value.pointer (some ⟨t, 0, none⟩), .pointer (some ⟨t, 34, none⟩), .int .i64 n, .bool false, .bool false, undef, Value.pointer (some ⟨t, 0, none⟩), Value.pointer (some ⟨t, 0, none⟩), Value.pointer (some ⟨t, 0, none⟩), .pointer (some ⟨t, 34, none⟩), .int .i64 n, .slice (some ⟨w.heap.size + 1 + 1, 0, none⟩) n n, .agg #[.int .i64 2, .int .i64 0, .int .i64 0, .string ⟨#[]⟩, .bool false, .int .i64 0, .int .i64 0, .bool false, .int .i64 0, .slice (some ⟨w.heap.size + 1 + 1, 0, none⟩) n n, .int .i64 0, .int .i64 0, .string ⟨#[]⟩], .int .i64 now, Value.pointer (some ⟨t, 0, none⟩), Value.pointer (some ⟨t, 0, none⟩), .pointer (some ⟨t, 38, none⟩), .int .i64 wh, .bool false, undef, undef, undef, undef, undef, undef, undef, Value.pointer (some ⟨t, 0, none⟩), Value.pointer (some ⟨t, 0, none⟩), Value.pointer (some ⟨t, 0, none⟩), .func (.func 116) #[] #[.pointer (some ⟨w.heap.size + 1 + 1 + 1 + 1, 0, none⟩)], .int .i64 x.1.1, .agg #[.int .i64 x.1.2.1, .int .i64 x.1.2.2], undef, undef, undef, undef, undef, undef, undef, undef, undef, undef, undef, undef, undef], defers := [] })
      (fun x a' s A C row hs hg hr => by
        obtain ⟨Bx, h1, h2, h3⟩ := hs
        exact ⟨Bx, h1, heap_own _ _ _ _ () A C row h2 hg hr, h3⟩)
      ?assign ?body ?done ?stop
    case assign =>
      rintro ly pre ⟨⟨k, f, tt⟩, hx⟩ W K hi hK
      simp only [encIv] at hK ⊢
      have H1 := Lib.hid (And.intro hi hK)
      clear hi hK
      gi_wp2
      obtain ⟨⟨q0, q1, q2, q3, q4⟩, q5⟩ := H1.out.1
      have hs := heap_lt q3
      have ht := HT.out.1.lt
      have hz := HB.out.2
      refine H1.out.2 _ _ ((KeepsOthers.alloc _ _).from _) (KpT.below ((Below.refl _ W).alloc (Nat.le_refl _) _) (by omega) (by omega)) ?_ ⟨W.heap.size, by omega, heap_alloc_new W _, rfl⟩
      exact ⟨⟨(Below.heap_alloc W _ _ (heap_lt q0)).trans q0, (Below.heap_alloc W _ _ (heap_lt q1)).trans q1, (Below.heap_alloc W _ _ (heap_lt q2)).trans q2, (Below.heap_alloc W _ _ (heap_lt q3)).trans q3, (Below.heap_alloc W _ _ (heap_lt q4)).trans q4⟩, q5.trans ((Below.refl _ W).alloc q5.size _)⟩
    case body =>
      rintro ly pre ⟨⟨k, f, tt⟩, hx⟩ a' W hl ⟨r, hr⟩ ⟨⟨q0, q1, q2, q3, q4⟩, q5⟩ ⟨Bx, hBx, hbx, rfl⟩ hlen
      simp only at hbx ⊢
      have hkn : k < n := mem_ivs hx
      have l0 := at_whole hbx 0 rfl
      have l1 := at_whole hbx 1 rfl
      have c0 := at_whole q0 0 rfl
      have c9 := at_whole q2 9 rfl
      simp only [List.getElem_toArray, List.getElem_cons_zero, List.getElem_cons_succ] at l0 l1 c0 c9
      have RL := rowP_len zs n (pre.map (·.1))
      have SL : (scs (rowP zs n (pre.map (·.1)))).length = n * 2 := by rw [scs_length, RL]
      have T1 := HT.out.1.block (q5.block t HT.out.1.lt)
      have y34 := T1.zg 34 (by decide) HT.out.2.many
      obtain ⟨j, hj⟩ : ∃ j, j = n - 1 - k := ⟨_, rfl⟩
      have d0 : ∃ v, W.cell? ⟨w.heap.size + 1 + 1, j * 2, none⟩ = some v := ⟨_, at_whole q4 (j * 2) (by rw [List.getElem?_toArray, List.getElem?_eq_getElem (by omega)])⟩
      have d1 : ∃ v, W.cell? ⟨w.heap.size + 1 + 1, j * 2 + 1, none⟩ = some v := ⟨_, at_whole q4 (j * 2 + 1) (by rw [List.getElem?_toArray, List.getElem?_eq_getElem (by omega)])⟩
      obtain ⟨v0, d0⟩ := d0
      obtain ⟨v1, d1⟩ := d1
      have z0 := frozen_of_row W (w.heap.size + 1 + 1) (j * 2) _ 103 q4
      have z1 := frozen_of_row W (w.heap.size + 1 + 1) (j * 2 + 1) _ 103 q4
      have AS := Lib.hid (show rowP zs n ((pre ++ [(⟨(k, f, tt), hx⟩ : InIv zs n)]).map (·.1)) = (rowP zs n (pre.map (·.1))).set j (f, tt) by rw [List.map_append, hj]; exact rowP_snoc zs n (pre.map (·.1)) (k, f, tt))
      have e1 : IntKind.i64.wrap ((n : Int) - 1) = (n : Int) - 1 := IntWalk.i64_in _ (by omega)
      have e2 : IntKind.i64.wrap ((n : Int) - 1 - (k : Int)) = (j : Int) := by rw [IntWalk.i64_in _ (by omega)]; omega
      have e3 : (0 : Int) ≤ (j : Int) := by omega
      have e4 : (j : Int) < (n : Int) := by omega
      have G := Lib.hid (And.intro (And.intro q0 (And.intro q1 (And.intro q2 (And.intro q3 q4)))) (And.intro q5 (And.intro RL (And.intro SL hj))))
      clear q0 q1 q2 q3 q4 q5 hbx T1 RL SL hj
      gi_wp2
      refine pure_region 46 12 (fun i => (#[.pointer (some ⟨w.heap.size + 1 + 1 + 1, 9, none⟩), .slice (some ⟨w.heap.size + 1 + 1, 0, none⟩) n n, .pointer (some ⟨t, 0, none⟩), .pointer (some ⟨t, 0, none⟩), .pointer (some ⟨t, 0, none⟩), .pointer (some ⟨t, 34, none⟩), .int .i64 n, .int .i64 ((n : Int) - 1), .int .i64 k, .int .i64 j, .agg #[.int .i64 f, .int .i64 tt], .pointer (some ⟨w.heap.size + 1 + 1, j * 2, none⟩)] : Array Value)[i]?.getD undef) (W1 := (W.drew.setCell ⟨w.heap.size + 1 + 1, j * 2, none⟩ (.int .i64 f)).setCell ⟨w.heap.size + 1 + 1, j * 2 + 1, none⟩ (.int .i64 tt)) rfl (by kernel_rfl) (by kernel_rfl) rfl (by simp) ?_ ?_ rfl ?_
      · rintro i o hi ho a ⟨hold, hdep⟩
        have o2 := hold 2 (by decide)
        have o6 := hold 6 (by decide)
        have o7 := hold 7 (by decide)
        have o8 := hold 8 (by decide)
        simp at o2 o6 o7 o8
        have hi12 : i = 0 ∨ i = 1 ∨ i = 2 ∨ i = 3 ∨ i = 4 ∨ i = 5 ∨ i = 6 ∨ i = 7 ∨ i = 8 ∨ i = 9 ∨ i = 10 ∨ i = 11 := by omega
        rcases hi12 with rfl | rfl | rfl | rfl | rfl | rfl | rfl | rfl | rfl | rfl | rfl | rfl
        all_goals (cases ho; simp [Region.binds] at hdep; refine ⟨rfl, rfl, fun _ hf => ?_, ?_⟩)
        all_goals first | (exact absurd hf (by simp [Oper.about])) | skip
        · simp [go_sem, Act.eval, o6]
        all_goals clear G AS HR X X0 X1 X2 X3 X4 X5 X6 MK hold
        all_goals (simp [go_sem, Act.eval, hdep, o2, o7, o8, c0, c9, y34, l0, l1, e1, e2, e3, e4]; done)
      · rintro o ho a ⟨hold, hdep⟩
        cases ho
        simp [Region.binds] at hdep
        clear G AS HR X X0 X1 X2 X3 X4 X5 X6 MK hold
        refine ⟨rfl, rfl, fun _ hf => absurd hf (by simp [Oper.about]), ?_⟩
        simp [go_sem, Act.eval, hdep, d0, d1, z0, z1]
      · obtain ⟨⟨q0, q1, q2, q3, q4⟩, q5, hRL, hSL, hj⟩ := G.out
        have hbz := heap_lt q4
        have hlt2 := HT.out.1.lt
        refine ⟨(((KeepsOthers.drew W).trans (KeepsOthers.setCell _ _ _)).trans (KeepsOthers.setCell _ _ _)).from _, ?_, ?_⟩
        all_goals have e0 : ∀ i, i ≠ w.heap.size + 1 + 1 → ((W.drew.setCell ⟨w.heap.size + 1 + 1, j * 2, none⟩ (.int .i64 f)).setCell ⟨w.heap.size + 1 + 1, j * 2 + 1, none⟩ (.int .i64 tt)).heap[i]? = W.heap[i]? := fun i hi => (heap_setCell_other _ ⟨w.heap.size + 1 + 1, j * 2 + 1, none⟩ i _ hi).trans (heap_setCell_other _ ⟨w.heap.size + 1 + 1, j * 2, none⟩ i _ hi)
        · exact ⟨e0 _ (by omega), e0 _ (by omega)⟩
        · refine ⟨⟨(e0 _ (by omega)).trans q0, (e0 _ (by omega)).trans q1, (e0 _ (by omega)).trans q2, (e0 _ (by omega)).trans q3, ?_⟩, (q5.drew.setCell (p := ⟨w.heap.size + 1 + 1, j * 2, none⟩) (by simp; omega) _).setCell (p := ⟨w.heap.size + 1 + 1, j * 2 + 1, none⟩) (by simp; omega) _⟩
          rw [AS.out, scs_set _ _ _ _ (by rw [hRL]; omega)]
          rw [heap_setCell_same _ _ _ _ 103 _ (heap_setCell_same W.drew _ _ _ 103 _ q4)]
          simp
    case done =>
      rename_i K0 hK0
      rintro D ys W hD hys ⟨⟨q0, q1, q2, q3, q4⟩, q5⟩ hK
      rw [hys, rowP_ivs zs n n (Nat.le_refl _)] at q4
      have H := Lib.hid (And.intro (And.intro q1 (And.intro q2 q4)) (And.intro q5 hK))
      clear q0 q1 q2 q3 q4 q5 hK hys
      refine hK0 _ _ (wpIn_wide.2 ?_)
      clear hK0
      have Hq := H.out.1.2.1
      have Hq1 := H.out.1.1
      go_wp2_with (first | (refine wpList_load_row rfl 56 _ rfl (w.heap.size + 1 + 1 + 1) rfl 56 _ (0, 0) _ Hq Tryz.underlying56 rfl size56 ?_) | (refine wpList_store_row rfl 56 _ _ rfl (w.heap.size + 1) _ rfl rfl 56 _ Hq1 size56 rfl (by simp [Value.oneCell']) ?_))
      have hz := HB.out.2
      have hD1 : D ≠ w.heap.size + 1 := by omega
      have hD2 : w.heap.size + 1 ≠ D := by omega
      have hD3 : w.heap.size + 1 + 1 ≠ D := by omega
      have hDK : (W.setRow (w.heap.size + 1) (ackE 0 (.slice (some ⟨w.heap.size + 1 + 1, 0, none⟩) n n))).heap[D]? = some (.deferred (some [])) := (setRow_other _ _ _ _ hD1).trans H.out.2.2
      refine ⟨by simp, .inl ⟨_, _, rfl, run_takeDeferred hDK, ?_⟩⟩
      refine ⟨_, results_cell_tmpS rfl _ _ (w.heap.size + 1) 56 _ (0, 0) _ rfl ((World.putObj_heap_other hD2).trans (setRow_heap _ _ _ _ _ _ Hq1)) Tryz.underlying56 rfl size56, w.heap.size + 1 + 1, rfl, ⟨by rw [scs_length, rowK_len], .inr ⟨_, n, _, rfl, by omega, (World.putObj_heap_other hD3).trans ((setRow_other _ _ _ _ (by omega)).trans H.out.1.2.2), Nat.le_refl _, by unfold maxLen; omega, by simp [scs_length, rowK_len], by rw [List.take_of_length_le (by simp [scs_length, rowK_len])]⟩⟩, ?_⟩
      exact (H.out.2.1.grown (grown_setRow W _ _) H.out.2.1.size (fun k e => by cases e; omega)).trans (belowK_b (w := w) (Nat.le_refl _) _ D _ _ (by omega) hDK rfl rfl)
    case stop =>
      rintro D c pre W _ _ h _
      exact h.elim
theorem rowG_top (h : Tg zs n top lg wh few) (hn : 1 ≤ n) : fT (rowK zs n n) 0 ≤ top := by
  rw [(rowK_at zs n 0 (by omega)).2]
  exact (h.rg _ (by omega)).2.2
end Go.Proofs.YtpfkeohaaeiaaaaGreatDoor.frm
