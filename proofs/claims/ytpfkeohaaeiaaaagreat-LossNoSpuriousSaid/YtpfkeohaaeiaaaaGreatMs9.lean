/- Texts Np Nb Nc Nd of this claim, one behind the other. -/
import Derived.Test.YtpfkeohaaeiaaaaGreatMs5
import Derived.Test.YtpfkeohaaeiaaaaGreatMs7
import Derived.Test.YtpfkeohaaeiaaaaGreatMs8
/- Law 13b: plain laws for LossNoSpurious: bursts of at most three packets that arrive nearly in order. -/
namespace Go.Proofs.YtpfkeohaaeiaaaaGreat
/-- the order in which m packets of a burst arrive -/
def pat : Nat → Nat → List Nat
  | 1, _ => [0]
  | 2, 1 => [1, 0]
  | 2, _ => [0, 1]
  | 3, 1 => [1, 0, 2]
  | 3, 2 => [2, 1, 0]
  | 3, _ => [0, 1, 2]
  | _, _ => []
theorem pat_cases (m k : Nat) : pat m k = [] ∨ pat m k = [0] ∨ pat m k = [0, 1] ∨ pat m k = [1, 0] ∨ pat m k = [0, 1, 2] ∨ pat m k = [1, 0, 2] ∨ pat m k = [2, 1, 0] := by
  unfold pat
  split <;> simp
theorem pat_len (m k : Nat) (hm : m ≤ 3) : (pat m k).length = m := by
  have : m = 0 ∨ m = 1 ∨ m = 2 ∨ m = 3 := by omega
  rcases this with rfl | rfl | rfl | rfl
  · rfl
  · rfl
  · unfold pat; split <;> simp_all
  · unfold pat; split <;> simp_all
/-- what of a burst has come when i of it have come: s -/
def shB (c : Int) (s : List Nat) (x : Int) : Bool := decide (0 ≤ x ∧ x < c) || s.any (fun a => decide (x = c + (a : Int)))
theorem shB_iff {c : Int} {s : List Nat} {x : Int} : shB c s x = true ↔ (0 ≤ x ∧ x < c) ∨ ∃ a ∈ s, x = c + (a : Int) := by
  unfold shB
  simp [List.any_eq_true]
theorem shB_snoc (c : Int) (s : List Nat) (a : Nat) (x : Int) : shB c (s ++ [a]) x = (shB c s x || decide (x = c + (a : Int))) := by
  unfold shB
  simp [Bool.or_assoc]
/-- a burst's numbers and the place: the numbers that came are below 3; the next one did not come; it is behind all of them or just ahead of a run of them -/
structure Nxt (s : List Nat) (a : Nat) : Prop where
  lt : ∀ b ∈ s, b ≤ 2
  a2 : a ≤ 2
  nin : a ∉ s
  nb : (∀ b ∈ s, b < a) ∨ ((a + 1) ∈ s ∧ ∀ b, b ∈ s → a < b → ∀ e, a < e → e ≤ b → e ∈ s)
theorem nxt_of {m k i : Nat} (hi : i < (pat m k).length) : Nxt ((pat m k).take i) ((pat m k)[i]?.getD 0) := by
  rcases pat_cases m k with e | e | e | e | e | e | e <;> rw [e] at hi ⊢ <;> simp at hi
  · obtain rfl : i = 0 := by omega
    exact ⟨by decide, by decide, by decide, .inl (by decide)⟩
  · have : i = 0 ∨ i = 1 := by omega
    rcases this with rfl | rfl
    · exact ⟨by decide, by decide, by decide, .inl (by decide)⟩
    · exact ⟨by decide, by decide, by decide, .inl (by decide)⟩
  · have : i = 0 ∨ i = 1 := by omega
    rcases this with rfl | rfl
    · exact ⟨by decide, by decide, by decide, .inl (by decide)⟩
    · exact ⟨by decide, by decide, by decide, .inr ⟨by decide, by intro b hb h1 e h2 h3; simp at hb h1 h2 ⊢; omega⟩⟩
  · have : i = 0 ∨ i = 1 ∨ i = 2 := by omega
    rcases this with rfl | rfl | rfl
    · exact ⟨by decide, by decide, by decide, .inl (by decide)⟩
    · exact ⟨by decide, by decide, by decide, .inl (by decide)⟩
    · exact ⟨by decide, by decide, by decide, .inl (by decide)⟩
  · have : i = 0 ∨ i = 1 ∨ i = 2 := by omega
    rcases this with rfl | rfl | rfl
    · exact ⟨by decide, by decide, by decide, .inl (by decide)⟩
    · exact ⟨by decide, by decide, by decide, .inr ⟨by decide, by intro b hb h1 e h2 h3; simp at hb h1 h2 ⊢; omega⟩⟩
    · exact ⟨by decide, by decide, by decide, .inl (by decide)⟩
  · have : i = 0 ∨ i = 1 ∨ i = 2 := by omega
    rcases this with rfl | rfl | rfl
    · exact ⟨by decide, by decide, by decide, .inl (by decide)⟩
    · exact ⟨by decide, by decide, by decide, .inr ⟨by decide, by intro b hb h1 e h2 h3; simp at hb h1 h2 ⊢; omega⟩⟩
    · exact ⟨by decide, by decide, by decide, .inr ⟨by decide, by intro b hb h1 e h2 h3; simp at hb h1 h2 ⊢; omega⟩⟩
theorem pat_mem (m k : Nat) (hm : m ≤ 3) (a : Nat) : a ∈ pat m k ↔ a < m := by
  have : m = 0 ∨ m = 1 ∨ m = 2 ∨ m = 3 := by omega
  rcases this with rfl | rfl | rfl | rfl
  · simp [pat]
  · simp [pat]
  · unfold pat; split <;> simp_all <;> omega
  · unfold pat; split <;> simp_all <;> omega
variable {zs : List Int} {n : Nat} {top lg wh few : Int}
theorem TkOk.last_cov {m : Nat} (h : TkOk zs (m + 1) top lg wh few) : covB zs (m + 1) (zg zs (m * 2 + 1) - 1) = true := by
  have := h.rg m (by omega)
  exact covB_iff.2 ⟨m, by omega, by omega, by omega⟩
theorem TkOk.to_not {k : Nat} (h : TkOk zs n top lg wh few) (hk : k < n) : covB zs n (zg zs (k * 2 + 1)) = false := by
  cases e : covB zs n (zg zs (k * 2 + 1)) with
  | false => rfl
  | true =>
    obtain ⟨j, hj, h1, h2⟩ := covB_iff.1 e
    have hr := h.rg j hj
    have hr2 := h.rg k hk
    rcases Nat.lt_trichotomy j k with h3 | h3 | h3
    · have := h.gap j k h3 hk; omega
    · subst h3; omega
    · have := h.gap k j h3 hj; omega
theorem TkOk.from_cov {k : Nat} (h : TkOk zs n top lg wh few) (hk : k < n) : covB zs n (zg zs (k * 2)) = true := by
  have := h.rg k hk
  exact covB_iff.2 ⟨k, hk, by omega, by omega⟩
theorem TkOk.from_not {k : Nat} (h : TkOk zs n top lg wh few) (hk : k < n) : covB zs n (zg zs (k * 2) - 1) = false := by
  cases e : covB zs n (zg zs (k * 2) - 1) with
  | false => rfl
  | true =>
    obtain ⟨j, hj, h1, h2⟩ := covB_iff.1 e
    have hr := h.rg j hj
    rcases Nat.lt_trichotomy j k with h3 | h3 | h3
    · have := h.gap j k h3 hk; omega
    · subst h3; omega
    · have := h.gap k j h3 hj; have := h.rg k hk; omega
/-- the next packet of a burst comes where Receive takes it -/
theorem near_of {c : Int} {s : List Nat} {a : Nat} (h : TkOk zs n top lg wh few) (hc : ∀ x, covB zs n x = shB c s x) (_c0 : 0 ≤ c) (hx : Nxt s a) : NearOk zs n (c + (a : Int)) ∧ n ≤ 14 ∧ covB zs n (c + (a : Int)) = false := by
  have hle : ∀ x, covB zs n x = true → x ≤ c + 2 := fun x hx2 => by
    rw [hc] at hx2
    rcases shB_iff.1 hx2 with h1 | ⟨b, hb, rfl⟩
    · omega
    · have := hx.lt b hb; omega
  have hge : ∀ x, 0 ≤ x → covB zs n x = false → c ≤ x := fun x h0 hx2 => by
    rw [hc] at hx2
    by_cases h1 : c ≤ x
    · exact h1
    · rw [shB_iff.2 (.inl ⟨h0, by omega⟩)] at hx2
      cases hx2
  have hmid : ∀ k, k + 1 < n → zg zs (k * 2 + 1) ≤ c + 1 ∧ c ≤ zg zs (k * 2 + 1) := fun k hk => by
    have h1 := h.gap k (k + 1) (by omega) hk
    have h2 := hle _ (h.from_cov hk)
    have h3 := h.rg k (by omega)
    exact ⟨by omega, hge _ (by omega) (h.to_not (by omega))⟩
  have hnc : covB zs n (c + (a : Int)) = false := by
    rw [hc]
    cases e : shB c s (c + (a : Int)) with
    | false => rfl
    | true =>
      rcases shB_iff.1 e with h1 | ⟨b, hb, h1⟩
      · omega
      · have : a = b := by omega
        subst this
        exact absurd hb hx.nin
  -- a covered number above the next one: all between are covered
  have hrun : ∀ x y, covB zs n x = true → c + (a : Int) < y → y ≤ x → covB zs n y = true := fun x y hx2 hy hyx => by
    rw [hc] at hx2 ⊢
    rcases shB_iff.1 hx2 with h1 | ⟨b, hb, rfl⟩
    · omega
    · rcases hx.nb with h2 | ⟨_, h2⟩
      · have := h2 b hb; omega
      · have := h2 b hb (by omega) (y - c).toNat (by omega) (by omega)
        exact shB_iff.2 (.inr ⟨_, this, by omega⟩)
  refine ⟨⟨fun k hk => ?_, fun m hm => ?_⟩, ?_, hnc⟩
  · by_cases h1 : zg zs (k * 2 + 1) ≤ c + (a : Int)
    · exact h1
    · have h2 := h.gap k (k + 1) (by omega) hk
      have h3 := hrun _ (zg zs (k * 2 + 1)) (h.from_cov hk) (by omega) (by omega)
      rw [h.to_not (by omega)] at h3
      cases h3
  · subst hm
    by_cases h1 : zg zs (m * 2 + 1) ≤ c + (a : Int)
    · exact .inl h1
    · right
      have hl := h.last_cov
      have hr := h.rg m (by omega)
      have h2 : c + (a : Int) < zg zs (m * 2) := by
        by_cases h3 : c + (a : Int) < zg zs (m * 2)
        · exact h3
        · have : covB zs (m + 1) (c + (a : Int)) = true := covB_iff.2 ⟨m, by omega, by omega, by omega⟩
          rw [hnc] at this
          cases this
      by_cases h3 : zg zs (m * 2) = c + (a : Int) + 1
      · exact h3
      · have h4 := hrun _ (zg zs (m * 2) - 1) (h.from_cov (k := m) (by omega)) (by omega) (by omega)
        rw [h.from_not (by omega)] at h4
        cases h4
  · by_cases h1 : n ≤ 3
    · omega
    · have h2 := hmid 0 (by omega)
      have h3 := hmid 2 (by omega)
      have h4 := h.gap 0 1 (by omega) (by omega)
      have h5 := h.gap 1 2 (by omega) (by omega)
      have h6 := h.rg 1 (by omega)
      have h7 := h.rg 2 (by omega)
      simp only [Nat.zero_mul, Nat.one_mul, Nat.zero_add] at *
      omega
theorem TkOk.up2 (h : TkOk zs n top lg wh few) {top' : Int} (ht : top ≤ top') : TkOk zs n top' lg wh few := h.upg ht
/-- all numbers below c were received and acknowledged, and those of a burst that are in s; numbers below nx were sent, number x at time tau x -/
structure NsOk (R : Rc) (zs : List Int) (n : Nat) (c : Int) (s : List Nat) (nx : Int) (tau : Int → Int) (whn : Int) : Prop where
  tk : ∃ top wh few, TkOk zs n top R.lg wh few ∧ few ≤ c + (s.length : Int) ∧ 0 ≤ wh ∧ wh ≤ 1000000 ∧ (s = [] ∨ wh = whn)
  cov : ∀ x, covB zs n x = shB c s x
  lgc : R.lg = -1 ∨ covB zs n R.lg = true
  lgm : ∀ x, covB zs n x = true → x ≤ R.lg
  lg0 : -1 ≤ R.lg
  nx : R.nx = nx
  l : ∀ p ∈ R.l, covB zs n p.pn = false ∧ p.time = tau p.pn
variable {R : Rc} {c nx whn : Int} {s : List Nat} {tau : Int → Int}
theorem NsOk.start (dl : Int) (h0 : 0 ≤ dl) (h1 : dl ≤ 20) (tau : Int → Int) (whn : Int) : NsOk ⟨[], 0, -1⟩ (zs0 dl) 0 0 [] 0 tau whn := by
  refine ⟨⟨0, 0, 0, zs0_ok dl h0 h1, by simp, by decide, by decide, .inl rfl⟩, fun x => ?_, .inl rfl, fun x hx => ?_, by decide, rfl, fun p hp => by cases hp⟩
  · show (List.range 0).any _ = _
    unfold shB
    simp
  · cases hx
theorem NsOk.send (h : NsOk R zs n c s nx tau whn) (hc : c ≤ nx) (hs : ∀ a ∈ s, c + (a : Int) < nx) (p : Pk) (hp : p.pn = nx) (ht : p.time = tau nx) : NsOk (R.add p) zs n c s (nx + 1) tau whn := by
  refine ⟨h.tk, h.cov, h.lgc, h.lgm, h.lg0, by show R.nx + 1 = _; rw [h.nx], fun q hq => ?_⟩
  rcases List.mem_append.1 hq with hq | hq
  · exact h.l q hq
  · rw [List.mem_singleton.1 hq, hp]
    refine ⟨?_, ht⟩
    rw [h.cov]
    cases e : shB c s nx with
    | false => rfl
    | true =>
      rcases shB_iff.1 e with h1 | ⟨a, ha, h1⟩
      · omega
      · have := hs a ha; omega
/-- the next packet of the burst is received, and its ACK frame arrives -/
theorem NsOk.ack {zs' : List Int} {n' : Nat} {top' wh' few' : Int} {a m : Nat} {now d' j : Int} (h : NsOk R zs n c s nx tau whn) (c0 : 0 ≤ c) (ok : TkOk zs' n' top' (max R.lg (c + (a : Int))) wh' few')
    (hcov : ∀ x, covB zs' n' x = (covB zs n x || decide (x = c + (a : Int)))) (hf : few' ≤ c + ((s ++ [a]).length : Int)) (hw0 : 0 ≤ wh') (hw1 : wh' ≤ 1000000) (hw : wh' = whn) (hpos : ∀ p ∈ R.l, 0 ≤ p.pn) (hm : ∀ b ∈ s ++ [a], b < m) (hm3 : m ≤ 3) (htau : ∀ x, c ≤ x → x < c + (m : Int) → tau x = j) (hj : now - d' < j) (hnx : c + (m : Int) ≤ nx) :
    1 ≤ n' ∧ fT (rowK zs' n' n') 0 ≤ nx ∧ R.lostA n' (fF (rowK zs' n' n')) (fT (rowK zs' n' n')) now d' = [] ∧ NsOk (R.acked n' (fF (rowK zs' n' n')) (fT (rowK zs' n' n')) now d') zs' n' c (s ++ [a]) nx tau whn := by
  have hc2 : ∀ x, covB zs' n' x = shB c (s ++ [a]) x := fun x => by rw [hcov, h.cov, shB_snoc]
  have hlt : ∀ x, covB zs' n' x = true → x < c + (m : Int) := fun x hx => by
    rw [hc2] at hx
    rcases shB_iff.1 hx with h1 | ⟨b, hb, rfl⟩
    · omega
    · have := hm b hb; omega
  have hpn : covB zs' n' (c + (a : Int)) = true := by rw [hcov]; simp
  have hn1 : 1 ≤ n' := by
    obtain ⟨k, hk, _⟩ := covB_iff.1 hpn
    omega
  obtain ⟨mm, rfl⟩ : ∃ mm, n' = mm + 1 := ⟨n' - 1, by omega⟩
  have hT0 : fT (rowK zs' (mm + 1) (mm + 1)) 0 = zg zs' (mm * 2 + 1) := by
    rw [(rowK_at zs' (mm + 1) 0 (by omega)).2]
    rfl
  have hlast := ok.last_cov
  have hmax : ∀ x, covB zs' (mm + 1) x = true → x ≤ zg zs' (mm * 2 + 1) - 1 := fun x hx => by
    obtain ⟨k, hk, h1, h2⟩ := covB_iff.1 hx
    by_cases hk2 : k = mm
    · subst hk2; omega
    · have := ok.gap k mm (by omega) (by omega)
      have := ok.rg mm (by omega)
      omega
  have hlg : max R.lg (zg zs' (mm * 2 + 1) - 1) = max R.lg (c + (a : Int)) ∧ zg zs' (mm * 2 + 1) - 1 = max R.lg (c + (a : Int)) := by
    have h1 := hmax _ hpn
    have h2 : R.lg ≤ zg zs' (mm * 2 + 1) - 1 := by
      rcases h.lgc with h3 | h3
      · have := ok.rg mm (by omega); omega
      · exact hmax _ (by rw [hcov, h3]; rfl)
    have h3 : zg zs' (mm * 2 + 1) - 1 ≤ max R.lg (c + (a : Int)) := by
      rw [hcov, Bool.or_eq_true, decide_eq_true_eq] at hlast
      rcases hlast with h4 | h4
      · have := h.lgm _ h4; omega
      · omega
    omega
  have hxl : ∀ p ∈ (R.ack (mm + 1) (fF (rowK zs' (mm + 1) (mm + 1))) (fT (rowK zs' (mm + 1) (mm + 1)))).l, p ∈ R.l ∧ covB zs' (mm + 1) p.pn = false := fun p hp => by
    obtain ⟨h1, h2⟩ := List.mem_filter.1 hp
    refine ⟨h1, ?_⟩
    unfold akF at h2
    rw [row_cov] at h2
    simpa using h2
  have hex : ∀ p ∈ (R.ack (mm + 1) (fF (rowK zs' (mm + 1) (mm + 1))) (fT (rowK zs' (mm + 1) (mm + 1)))).l, exF (R.ack (mm + 1) (fF (rowK zs' (mm + 1) (mm + 1))) (fT (rowK zs' (mm + 1) (mm + 1)))).lg now d' p = false := fun p hp => by
    obtain ⟨h1, h2⟩ := hxl p hp
    have h3 : (R.ack (mm + 1) (fF (rowK zs' (mm + 1) (mm + 1))) (fT (rowK zs' (mm + 1) (mm + 1)))).lg = zg zs' (mm * 2 + 1) - 1 := by
      show max R.lg (fT (rowK zs' (mm + 1) (mm + 1)) 0 - 1) = _
      rw [hT0]; omega
    rw [h3]
    have h4 := hlt _ hlast
    unfold exF
    by_cases h5 : p.pn < zg zs' (mm * 2 + 1) - 1
    · by_cases h0 : 0 ≤ p.pn
      · have h6 : c ≤ p.pn := by
          rw [hc2] at h2
          by_cases h7 : c ≤ p.pn
          · exact h7
          · rw [shB_iff.2 (.inl ⟨h0, by omega⟩)] at h2
            cases h2
        have h7 := (h.l p h1).2
        rw [htau _ h6 (by omega)] at h7
        have h8 : ¬ p.pn + 3 ≤ zg zs' (mm * 2 + 1) - 1 := by omega
        have h9 : ¬ p.time ≤ now - d' := by omega
        simp [h8, h9]
      · exact absurd (hpos p h1) h0
    · simp [h5]
  refine ⟨hn1, by rw [hT0]; have := hlt _ hlast; omega, List.filter_eq_nil_iff.2 (fun p hp => by rw [hex p hp]; decide), ?_⟩
  have hacc : (R.acked (mm + 1) (fF (rowK zs' (mm + 1) (mm + 1))) (fT (rowK zs' (mm + 1) (mm + 1))) now d').lg = max R.lg (c + (a : Int)) := by
    show max R.lg (fT (rowK zs' (mm + 1) (mm + 1)) 0 - 1) = _
    rw [hT0]; exact hlg.1
  refine ⟨⟨top', wh', few', by rw [hacc]; exact ok, hf, hw0, hw1, .inr hw⟩, hc2, .inr ?_, fun x hx => ?_, ?_, h.nx, fun p hp => ?_⟩
  · rw [hacc, ← hlg.2]; exact hlast
  · rw [hacc, ← hlg.2]; exact hmax x hx
  · rw [hacc]; omega
  · obtain ⟨h1, h2⟩ := List.mem_filter.1 hp
    obtain ⟨h3, h4⟩ := hxl p h1
    exact ⟨h4, (h.l p h3).2⟩
/-- the burst is complete -/
theorem NsOk.full {m k : Nat} (h : NsOk R zs n c (pat m k) nx tau whn) (hm : m ≤ 3) (c0 : 0 ≤ c) (whn' : Int) : NsOk R zs n (c + (m : Int)) [] nx tau whn' := by
  obtain ⟨top, wh, few, h1, h2, h3, h4, _⟩ := h.tk
  rw [pat_len m k hm] at h2
  refine ⟨⟨top, wh, few, h1, by simpa using h2, h3, h4, .inl rfl⟩, fun x => ?_, h.lgc, h.lgm, h.lg0, h.nx, h.l⟩
  rw [h.cov, Bool.eq_iff_iff, shB_iff, shB_iff]
  constructor
  · rintro (h1 | ⟨a, ha, rfl⟩)
    · exact .inl (by omega)
    · have := (pat_mem m k hm a).1 ha
      exact .inl (by omega)
  · rintro (h1 | ⟨a, ha, _⟩)
    · by_cases h5 : x < c
      · exact .inl (by omega)
      · exact .inr ⟨(x - c).toNat, (pat_mem m k hm _).2 (by omega), by omega⟩
    · cases ha
/-- at the end of a tick nothing is lost -/
theorem NsOk.quiet (h : NsOk R zs n c [] nx tau whn) (hb : ∀ p ∈ R.l, 0 ≤ p.pn) (now d' : Int) : R.l.filter (exF R.lg now d') = [] ∧ R.cut (exF R.lg now d') = R := by
  have hex : ∀ p ∈ R.l, exF R.lg now d' p = false := fun p hp => by
    have h1 := (h.l p hp).1
    have h2 : ¬ p.pn < R.lg := fun h3 => by
      rcases h.lgc with h4 | h4
      · have := hb p hp; omega
      · rw [h.cov] at h4
        rw [h.cov] at h1
        rcases shB_iff.1 h4 with h5 | ⟨a, ha, _⟩
        · rw [shB_iff.2 (.inl ⟨hb p hp, by omega⟩)] at h1
          cases h1
        · cases ha
    unfold exF
    simp [h2]
  refine ⟨List.filter_eq_nil_iff.2 (fun p hp => by rw [hex p hp]; decide), ?_⟩
  unfold Rc.cut
  rw [List.filter_eq_self.2 (fun p hp => by rw [hex p hp]; rfl)]
/-- at the very end nothing is left -/
theorem NsOk.done (h : NsOk R zs n c [] nx tau whn) (hb : ∀ p ∈ R.l, 0 ≤ p.pn ∧ p.pn < R.nx) (hc : nx ≤ c) : R.l = [] := by
  cases hl : R.l with
  | nil => rfl
  | cons p l =>
    have h1 := (h.l p (by rw [hl]; simp)).1
    have h2 := hb p (by rw [hl]; simp)
    rw [h.cov, shB_iff.2 (.inl ⟨h2.1, by rw [h.nx] at h2; omega⟩)] at h1
    cases h1
end Go.Proofs.YtpfkeohaaeiaaaaGreat
/- Law 13b: bursts: a row of rows of numbers, of the call's own, beside a Recovery. -/
namespace Go.Proofs.YtpfkeohaaeiaaaaGreat
open Go.RowKit Go.WideShapes Go.ChangeShapes
variable {w0 w w' : World} {b M : Nat} {R R' : Rc} {rows rows' : List Rw} {os : List (Nat × Obj)}
def NoT (T : TypeId) (os : List (Nat × Obj)) : Prop := ∀ x ∈ os, ∃ cs T', x.2 = .cells cs T' (0, 0) ∧ T' ≠ T
/-- only block g of a row has turned -/
theorem Lw.otherG {T : TypeId} (h : Lw w0 w b M R rows os) {g : Nat} {cur : Array Value} (hT : T ≠ 59) (hg : w.heap[g]? = some (.cells cur T (0, 0))) (hgb : w0.heap.size ≤ g) (ht : Tu g g w w') (hs : ∀ x ∈ rows', x ∈ rows ∧ (x.e = T → x.v.ownBlock ≠ some g)) (ho : NoT T os) :
    Lw w0 w' b M R rows' os := by
  have hbg : b ≠ g := fun e => by
    subst e
    have := h.at_.1
    rw [hg] at this
    simp only [Option.some.injEq, Obj.cells.injEq] at this
    exact hT this.2.1
  have hMg : M ≠ g := fun e => by subst e; have := h.at_.noC hg; cases this
  refine ⟨Tu.to_below h.bel ht hgb hgb h.bel.size, ⟨(ht.block b (heap_lt h.at_.1) hbg hbg).trans h.at_.1, h.at_.2.of_block (ht.block M h.at_.2.lt hMg hMg)⟩, h.ok, h.nil, h.ownb, h.ownM, fun x hx => ?_, fun x hx => ?_⟩
  · obtain ⟨h1, h2⟩ := hs x hx
    obtain ⟨hr, h3⟩ := h.rows x h1
    refine ⟨⟨hr.1, ?_⟩, h3⟩
    rcases hr.2 with h4 | ⟨g1, cap, cur1, e1, hb, hgg, rest⟩
    · exact .inl h4
    · have hne : g1 ≠ g := fun e => by
        subst e
        rw [hgg] at hg
        simp only [Option.some.injEq, Obj.cells.injEq] at hg
        exact h2 hg.2.1 (by rw [e1]; rfl)
      exact .inr ⟨g1, cap, cur1, e1, hb, (ht.block g1 (heap_lt hgg) hne hne).trans hgg, rest⟩
  · obtain ⟨h1, h2, h3⟩ := h.os x hx
    obtain ⟨cs, T', h4, h5⟩ := ho x hx
    have hne : x.1 ≠ g := fun e => by
      rw [h4, e, hg] at h1
      simp only [Option.some.injEq, Obj.cells.injEq] at h1
      exact h5 h1.2.1.symm
    exact ⟨(ht.block x.1 (heap_lt h1) hne hne).trans h1, h2, h3⟩
def bvR (v : Value) (B : List (Value × List Int)) : Rw := ⟨22, 1, v, B.length, B.map (·.1)⟩
def bR (x : Value × List Int) : Rw := inR x.1 x.2
/-- the bursts made so far -/
def Bk (w0 w : World) (b M : Nat) (R : Rc) (bv : Value) (B : List (Value × List Int)) (os : List (Nat × Obj)) : Prop := Lw w0 w b M R (bvR bv B :: B.map bR) os
/-- and one that is being made -/
structure Bq (w0 w : World) (b M : Nat) (R : Rc) (bv : Value) (B : List (Value × List Int)) (lv : Value) (l : List Int) (os : List (Nat × Obj)) : Prop where
  lw : Lw w0 w b M R (bvR bv B :: inR lv l :: B.map bR) os
  ap : ∀ x ∈ B, ∀ g, lv.ownBlock = some g → x.1.ownBlock ≠ some g
variable {bv lv : Value} {B : List (Value × List Int)} {l : List Int}
theorem Bk.start (h : Bk w0 w b M R bv B os) : Bq w0 w b M R bv B (.slice none 0 0) [] os := by
  refine ⟨(h.addRow (inR (.slice none 0 0) []) (World.ownsRow_nil _ _ 3 1) (show (3 : Nat) ≠ 59 by decide)).sub (fun x hx => ?_) (fun _ hx => hx), fun x _ g hg => by simp [Value.ownBlock] at hg⟩
  rcases List.mem_cons.1 hx with e | hx
  · exact e ▸ List.mem_cons_of_mem _ List.mem_cons_self
  · rcases List.mem_cons.1 hx with e | hx
    · exact e ▸ List.mem_cons_self
    · exact List.mem_cons_of_mem _ (List.mem_cons_of_mem _ hx)
theorem Bq.below (h : Bq w0 w b M R bv B lv l os) (hb : Below w.heap.size w w') : Bq w0 w' b M R bv B lv l os := ⟨h.lw.below hb, h.ap⟩
theorem Bq.bl (h : Bq w0 w b M R bv B lv l os) : w.ownsRow w0.heap.size 3 1 lv l.length (ints l) := (h.lw.rows _ (List.mem_cons_of_mem _ List.mem_cons_self)).1
theorem Bq.bb (h : Bq w0 w b M R bv B lv l os) : w.ownsRow w0.heap.size 22 1 bv B.length (B.map (·.1)) := (h.lw.rows _ List.mem_cons_self).1
/-- the row of l has turned -/
theorem Bq.turn (h : Bq w0 w b M R bv B lv l os) {g : Nat} (hg : lv.ownBlock = some g) (ht : Tu g g w w') {lv' : Value} {l' : List Int} (hn : w'.ownsRow w0.heap.size 3 1 lv' l'.length (ints l')) (hl : lv'.ownBlock = some g ∨ lv'.ownBlock = some w.heap.size) (ho : NoT 3 os) :
    Bq w0 w' b M R bv B lv' l' os := by
  obtain ⟨hb, hlt, cur, cap, e, hgg⟩ := row_block h.bl hg
  have h1 := (h.lw.otherG (rows' := bvR bv B :: B.map bR) (by decide) hgg hb ht (fun x hx => ?_) ho).addRow (inR lv' l') hn (show (3 : Nat) ≠ 59 by decide)
  · refine ⟨h1.sub (fun x hx => ?_) (fun _ hx => hx), fun x hx g' h1 h2 => ?_⟩
    · rcases List.mem_cons.1 hx with e | hx
      · exact e ▸ List.mem_cons_of_mem _ List.mem_cons_self
      · rcases List.mem_cons.1 hx with e | hx
        · exact e ▸ List.mem_cons_self
        · exact List.mem_cons_of_mem _ (List.mem_cons_of_mem _ hx)
    · rcases hl with hl | hl
      · rw [hl] at h1; cases h1; exact h.ap x hx g hg h2
      · rw [hl] at h1; cases h1
        have := (row_block (h.lw.rows (bR x) (List.mem_cons_of_mem _ (List.mem_cons_of_mem _ (List.mem_map_of_mem hx)))).1 h2).2.1
        exact absurd this (Nat.lt_irrefl _)
  · rcases List.mem_cons.1 hx with e | hx
    · subst e
      exact ⟨List.mem_cons_self, fun e3 => absurd e3 (show (22 : Nat) ≠ 3 by decide)⟩
    · refine ⟨List.mem_cons_of_mem _ (List.mem_cons_of_mem _ hx), fun _ => ?_⟩
      obtain ⟨y, hy, rfl⟩ := List.mem_map.1 hx
      exact h.ap y hy g hg
theorem Bq.fresh (h : Bq w0 w b M R bv B lv l os) (hb : Below w.heap.size w w') {lv' : Value} {l' : List Int} (hn : w'.ownsRow w0.heap.size 3 1 lv' l'.length (ints l')) (hl : lv'.ownBlock = some w.heap.size) : Bq w0 w' b M R bv B lv' l' os := by
  refine ⟨((h.lw.below hb).addRow (inR lv' l') hn (show (3 : Nat) ≠ 59 by decide)).sub (fun x hx => ?_) (fun _ hx => hx), fun x hx g' h1 h2 => ?_⟩
  · rcases List.mem_cons.1 hx with e | hx
    · exact e ▸ List.mem_cons_of_mem _ List.mem_cons_self
    · rcases List.mem_cons.1 hx with e | hx
      · exact e ▸ List.mem_cons_self
      · exact List.mem_cons_of_mem _ (List.mem_cons_of_mem _ (List.mem_cons_of_mem _ hx))
  · rw [hl] at h1; cases h1
    have := (row_block (h.lw.rows (bR x) (List.mem_cons_of_mem _ (List.mem_cons_of_mem _ (List.mem_map_of_mem hx)))).1 h2).2.1
    exact absurd this (Nat.lt_irrefl _)
theorem wpList_append_bl {ops : Array Oper} {rest : List Oper} {o : Oper} {a : Act} {Q : Exit → Act → World → Prop} (hgd : o.guard = none) (s x : Operand) (hop : o.op = .call { callee := .builtin .append, args := #[s, x], argTypes := #[22, 22] })
    (z : Int) (h : Bq w0 w b M R bv B lv l os) (hs : a.eval s = lv) (g0 : Nat) (hx : a.eval x = .slice (some ⟨g0, 0, none⟩) 1 1) (hg0 : w.heap[g0]? = some (.cells #[.int .i64 z] 3 (0, 0)))
    (m : Nat) (hm : l.length = m) (hT : m ≤ 10000) (ho : NoT 3 os)
    (hk : ∀ a' cap w', Bq w0 w' b M R bv B (.slice a' (m + 1) cap) (l ++ [z]) os → wpList Tryz.prog ops Q rest (a.put o.dst (.slice a' (m + 1) cap)) w') : wpList Tryz.prog ops Q (o :: rest) a w := by
  subst hm
  obtain ⟨i0, hi, hz0, hz1, hz2⟩ := info_parts info3
  refine wpList_append_lies w hgd s x 22 hop w0.heap.size 3 i0 (.int .i64 0) 1 8 Tryz.underlying22 hi hz0 hz1 hz2 rfl (by decide) lv l.length (ints l) hs h.bl ⟨g0, 0, none⟩ 1 1 [.int .i64 z] hx rfl (World.news_of_block hg0) (by simp [Value.oneCell']) (by decide) (by unfold maxLen; omega) (by omega) h.lw.bel.size _ rfl ?_
  intro g cap w' hown hgrow hat hlt
  have e1 : ints l ++ [Value.int .i64 z] = ints (l ++ [z]) := by simp [ints]
  rw [e1] at hown
  have hnew : w'.ownsRow w0.heap.size 3 1 (.slice (some ⟨g, 0, none⟩) (l.length + 1) cap) (l ++ [z]).length (ints (l ++ [z])) := by rw [List.length_append]; exact hown
  refine hk _ _ _ ?_
  cases hv : lv.ownBlock with
  | none =>
    rw [hv] at hgrow hat
    have hb : Below w.heap.size w w' := (Below.refl _ w).grown hgrow (Nat.le_refl _) (fun k e => by cases e)
    exact h.fresh hb hnew (by rcases hat with hat | hat; · cases hat
                              · rw [← hat]; rfl)
  | some g1 =>
    rw [hv] at hgrow hat
    exact h.turn hv (Tu.map hgrow) hnew (by rcases hat with hat | hat
                                            · left; cases hat; rfl
                                            · right; rw [← hat]; rfl) ho
theorem Bq.set (h : Bq w0 w b M R bv B lv l os) {g cap : Nat} (hv : lv = .slice (some ⟨g, 0, none⟩) l.length cap) (j : Nat) (x : Int) (ho : NoT 3 os) : Bq w0 (w.setCell ⟨g, j, none⟩ (.int .i64 x)) b M R bv B lv (l.set j x) os := by
  have hg : lv.ownBlock = some g := by rw [hv]; rfl
  have ht := h.bl
  rw [hv] at ht
  have hs := ht.stored j (.int .i64 x)
  refine h.turn hg (Tu.set _ _ _) ?_ (.inl hg) ho
  rw [List.length_set, ← ints_set, hv]
  exact hs.1
theorem info22 : (Tryz.prog.info? 22).map (fun i => (i.zero, i.size, i.bytes)) = some (some (.slice none 0 0), 1, 24) := by kernel_rfl
/-- the burst is put behind the bursts -/
theorem wpList_append_bb {ops : Array Oper} {rest : List Oper} {o : Oper} {a : Act} {Q : Exit → Act → World → Prop} (hgd : o.guard = none) (s x : Operand) (hop : o.op = .call { callee := .builtin .append, args := #[s, x], argTypes := #[33, 33] })
    (h : Bq w0 w b M R bv B lv l os) (hs : a.eval s = bv) (g0 : Nat) (hx : a.eval x = .slice (some ⟨g0, 0, none⟩) 1 1) (hg0 : w.heap[g0]? = some (.cells #[lv] 22 (0, 0))) (h1c : lv.oneCell' = true)
    (m : Nat) (hm : B.length = m) (hT : m ≤ 10000) (ho : NoT 22 os)
    (hk : ∀ a' cap w', Bk w0 w' b M R (.slice a' (m + 1) cap) (B ++ [(lv, l)]) os → wpList Tryz.prog ops Q rest (a.put o.dst (.slice a' (m + 1) cap)) w') : wpList Tryz.prog ops Q (o :: rest) a w := by
  subst hm
  obtain ⟨i0, hi, hz0, hz1, hz2⟩ := info_parts info22
  refine wpList_append_own w hgd s x 33 hop w0.heap.size 22 i0 (.slice none 0 0) 1 24 Tryz.underlying33 hi hz0 hz1 hz2 rfl (by decide) bv B.length (B.map (·.1)) hs h.bb ⟨g0, 0, none⟩ 1 1 [lv] hx rfl (World.news_of_block hg0) (by simpa using h1c) (by unfold maxLen; omega) (by omega) h.lw.bel.size ?_
  intro v' w' hown hgrow _
  obtain ⟨g', cap', rfl⟩ := ownsRow_succ hown
  have e1 : B.map (·.1) ++ [lv] = (B ++ [(lv, l)]).map (·.1) := by simp
  rw [e1] at hown
  have hnew : w'.ownsRow w0.heap.size 22 1 (.slice (some ⟨g', 0, none⟩) (B.length + 1) cap') (B ++ [(lv, l)]).length ((B ++ [(lv, l)]).map (·.1)) := by rw [List.length_append]; exact hown
  refine hk _ _ _ ?_
  have hsub : ∀ x ∈ (B ++ [(lv, l)]).map bR, x ∈ bvR bv B :: inR lv l :: B.map bR ∧ x.e = 3 := fun x hx => by
    obtain ⟨y, hy, rfl⟩ := List.mem_map.1 hx
    rcases List.mem_append.1 hy with hy | hy
    · exact ⟨List.mem_cons_of_mem _ (List.mem_cons_of_mem _ (List.mem_map_of_mem hy)), rfl⟩
    · rw [List.mem_singleton.1 hy]
      exact ⟨List.mem_cons_of_mem _ List.mem_cons_self, rfl⟩
  have hL : Lw w0 w' b M R ((B ++ [(lv, l)]).map bR) os := by
    rcases h.bb.2 with ⟨rfl, _⟩ | ⟨g, cap, cur, rfl, hb, hgg, _⟩
    · have hb : Below w.heap.size w w' := (Below.refl _ w).grown hgrow (Nat.le_refl _) (fun k e => by simp [Value.ownBlock] at e)
      exact (h.lw.below hb).sub (fun x hx => (hsub x hx).1) (fun _ hx => hx)
    · exact h.lw.otherG (by decide) hgg hb (Tu.map hgrow) (fun x hx => ⟨(hsub x hx).1, fun e => by rw [(hsub x hx).2] at e; exact absurd e (by decide)⟩) ho
  exact hL.addRow (bvR _ (B ++ [(lv, l)])) hnew (show (22 : Nat) ≠ 59 by decide)
/-- how many numbers the bursts hold -/
def totB (B : List (Value × List Int)) : Nat := (B.map (fun x => x.2.length)).sum
theorem totB_snoc (B : List (Value × List Int)) (x : Value × List Int) : totB (B ++ [x]) = totB B + x.2.length := by simp [totB]
theorem totB_le (B : List (Value × List Int)) (k : Nat) (h : ∀ x ∈ B, x.2.length ≤ k) : totB B ≤ k * B.length := by
  induction B with
  | nil => simp [totB]
  | cons x B ih =>
    have h1 := ih (fun y hy => h y (by simp [hy]))
    have h2 := h x (by simp)
    simp only [totB, List.map_cons, List.sum_cons, List.length_cons] at *
    rw [Nat.mul_add]
    omega
theorem take_succ_tot (B : List (Value × List Int)) (k : Nat) (hk : k < B.length) : totB (B.take (k + 1)) = totB (B.take k) + (B[k]'hk).2.length := by
  rw [List.take_add_one, List.getElem?_eq_getElem hk]
  exact totB_snoc _ _
set_option maxRecDepth 100000 in
set_option maxHeartbeats 4000000 in
theorem first_any (w : World) (bv : Value) (B : List (Value × List Int)) (B0 : Nat) (hr : w.ownsRow B0 22 1 bv B.length (B.map (·.1))) (hf : ∀ x ∈ B, ∃ a c, x.1 = .slice a x.2.length c) (hl : ∀ x ∈ B, x.2.length ≤ 3) (hB : B.length ≤ 30) :
    Calls Tryz.prog 9 #[bv] w fun e w' => e = .returned (.int .i64 (totB B)) ∧ w = w' := by
  have HR := Lib.hid hr
  have HF := Lib.hid hf
  have HL := Lib.hid hl
  have HB := Lib.hid hB
  have hv : ∃ a c, bv = .slice a B.length c := by
    rcases hr.2 with ⟨rfl, h0⟩ | ⟨g, cap, cur, rfl, _⟩
    · exact ⟨none, 0, by rw [h0]⟩
    · exact ⟨_, _, rfl⟩
  obtain ⟨a, c, rfl⟩ := hv
  clear hr hf hl
  go_enter Tryz.func9, Tryz.ntmps9
  go_wp2_with fail
  go_loop [3, 4] (fun n i => ∃ k : Nat, k ≤ B.length ∧ i = .int .i64 k ∧ n = .int .i64 (totB (B.take k))) (fun _ i => B.length - (intOf i).toNat)
  case atStart => exact ⟨0, by omega, rfl, by simp [totB]⟩
  case round =>
    obtain ⟨k, hk, rfl, rfl⟩ := hrel
    have ht : totB (B.take k) ≤ 100 := by
      have := totB_le (B.take k) 3 (fun x hx => HL.out x (List.mem_of_mem_take hx))
      rw [List.length_take] at this
      omega
    by_cases hlt : k < B.length
    · have hmem := List.getElem_mem hlt
      obtain ⟨ga, gc, eg⟩ := HF.out _ hmem
      have hlen := HL.out _ hmem
      have TS := Lib.hid (take_succ_tot B k hlt)
      obtain ⟨g, e⟩ : ∃ g, a = some ⟨g, 0, none⟩ := by
        rcases HR.out.2 with ⟨_, h0⟩ | ⟨g, _, _, e, _⟩
        · omega
        · simp only [Value.slice.injEq] at e; exact ⟨g, e.1⟩
      subst e
      have hcm : c ≤ maxLen := by
        rcases HR.out.2 with ⟨h0, _⟩ | ⟨g3, c3, _, e3, _, _, _, h3, _⟩
        · simp at h0
        · simp only [Value.slice.injEq] at e3; rw [e3.2.2]; exact h3
      unfold maxLen at hcm
      have c0 := HR.out.cellAt k (by omega)
      rw [List.getElem?_map, List.getElem?_eq_getElem hlt, Option.map_some, eg] at c0
      generalize (B[k]'hlt).2.length = y at *
      generalize totB (B.take k) = x at *
      have i0 : (0 : Int) ≤ (k : Int) := by omega
      have i1 : (k : Int) < (B.length : Int) := by omega
      clear eg hmem
      go_wp2_with fail
      go_round
      case rel => exact ⟨k + 1, by omega, by go_num, by rw [TS.out]; go_num⟩
      case measure => simp [intOf]; omega
    · obtain rfl : k = B.length := by omega
      rw [List.take_length] at ht ⊢
      go_wp2_with fail
      go_ret
      exact ⟨rfl, rfl⟩
end Go.Proofs.YtpfkeohaaeiaaaaGreat
/- Law 13b: the ticks of LossNoSpurious in plain data; the blocks beside the bursts. -/
namespace Go.Proofs.YtpfkeohaaeiaaaaGreat
open Go.RowKit Go.WideShapes Go.ChangeShapes
/-- how many packets were sent before tick j -/
def cB (B : List (Value × List Int)) (j : Nat) : Int := (totB (B.take j) : Int)
theorem cB_zero (B : List (Value × List Int)) : cB B 0 = 0 := by simp [cB, totB]
theorem cB_succ (B : List (Value × List Int)) (j : Nat) (hj : j < B.length) : cB B (j + 1) = cB B j + ((B[j]'hj).2.length : Int) := by
  unfold cB
  rw [take_succ_tot B j hj]
  push_cast
  rfl
theorem cB_end (B : List (Value × List Int)) (j : Nat) (hj : B.length ≤ j) : cB B j = (totB B : Int) := by
  unfold cB
  rw [List.take_of_length_le hj]
theorem cB_mono (B : List (Value × List Int)) {i j : Nat} (h : i ≤ j) : cB B i ≤ cB B j := by
  obtain ⟨d, rfl⟩ := Nat.exists_eq_add_of_le h
  induction d with
  | zero => exact Int.le_refl _
  | succ d ih =>
    have ih := ih (by omega)
    by_cases hd : i + d < B.length
    · have := cB_succ B (i + d) hd
      show cB B i ≤ cB B (i + d + 1)
      omega
    · rw [cB_end B (i + d) (by omega)] at ih
      show cB B i ≤ cB B (i + d + 1)
      rw [cB_end B (i + d + 1) (by omega)]
      exact ih
theorem cB_nonneg (B : List (Value × List Int)) (j : Nat) : 0 ≤ cB B j := Int.natCast_nonneg _
/-- the tick in which a packet is sent -/
def tauB (B : List (Value × List Int)) (x : Int) : Int := (((List.range B.length).countP (fun i => decide (cB B (i + 1) ≤ x)) : Nat) : Int)
theorem count_lt (N j : Nat) (h : j ≤ N) : (List.range N).countP (fun i => decide (i < j)) = j := by
  induction N with
  | zero => have : j = 0 := by omega
            subst this; rfl
  | succ N ih =>
    rw [List.range_succ, List.countP_append]
    by_cases hj : j ≤ N
    · rw [ih hj]
      have : ¬ N < j := by omega
      simp [this]
    · have : j = N + 1 := by omega
      subst this
      have e : (List.range N).countP (fun i => decide (i < N + 1)) = N := by
        rw [List.countP_eq_length.2 (fun i hi => by have := List.mem_range.1 hi; simp; omega)]
        simp
      rw [e]
      simp
theorem tauB_at (B : List (Value × List Int)) (j : Nat) (hj : j < B.length) (x : Int) (h1 : cB B j ≤ x) (h2 : x < cB B (j + 1)) : tauB B x = j := by
  unfold tauB
  have e : (List.range B.length).countP (fun i => decide (cB B (i + 1) ≤ x)) = (List.range B.length).countP (fun i => decide (i < j)) := by
    refine List.countP_congr (fun i _ => ?_)
    rw [decide_eq_true_eq, decide_eq_true_eq]
    constructor
    · intro h3
      by_cases h4 : i < j
      · exact h4
      · have := cB_mono B (show j + 1 ≤ i + 1 by omega)
        omega
    · intro h3
      have := cB_mono B (show i + 1 ≤ j by omega)
      omega
  rw [e, count_lt _ _ (by omega)]
/-- the estimator when c packets were acknowledged -/
def EstOk (E : Obj) (d : Nat) (c : Int) : Prop := (c ≤ 0 ∧ E = esO 80 20 0 0) ∨ (0 < c ∧ ∃ v, 0 ≤ v ∧ v ≤ 1000000 ∧ E = esO (8 * (2 * (d : Int))) v (2 * (d : Int)) (2 * (d : Int)))
theorem EstOk.isC {E : Obj} {d : Nat} {c : Int} (h : EstOk E d c) : isC E = true := by
  rcases h with ⟨_, rfl⟩ | ⟨_, v, _, _, rfl⟩ <;> rfl
variable {w0 w w' : World} {b M : Nat} {R : Rc} {rows : List Rw} {os : List (Nat × Obj)}
/-- only a block beside the rows has turned -/
theorem Lw.turnO {k : Nat} {cs cs' : Array Value} {T : TypeId} (h : Lw w0 w b M R rows ((k, .cells cs T (0, 0)) :: os)) (hT : T ≠ 59) (hk : w'.heap[k]? = some (.cells cs' T (0, 0))) (ht : Tu k k w w') (hr : ∀ x ∈ rows, x.e ≠ T) (ho : ∀ x ∈ os, x.1 ≠ k) (hb : w0.heap.size ≤ k) : Lw w0 w' b M R rows ((k, .cells cs' T (0, 0)) :: os) := by
  have hg : w.heap[k]? = some (.cells cs T (0, 0)) := h.at List.mem_cons_self
  have hbg : b ≠ k := fun e => by
    subst e
    have := h.at_.1
    rw [hg] at this
    simp only [Option.some.injEq, Obj.cells.injEq] at this
    exact hT this.2.1
  have hMg : M ≠ k := fun e => by subst e; have := h.at_.noC hg; cases this
  refine ⟨Tu.to_below h.bel ht hb hb h.bel.size, ⟨(ht.block b (heap_lt h.at_.1) hbg hbg).trans h.at_.1, h.at_.2.of_block (ht.block M h.at_.2.lt hMg hMg)⟩, h.ok, h.nil, h.ownb, h.ownM, fun x hx => ?_, fun x hx => ?_⟩
  · obtain ⟨hr1, h3⟩ := h.rows x hx
    refine ⟨⟨hr1.1, ?_⟩, h3⟩
    rcases hr1.2 with h4 | ⟨g1, cap, cur1, e1, hb, hgg, rest⟩
    · exact .inl h4
    · have hne : g1 ≠ k := fun e => by
        subst e
        rw [hgg] at hg
        simp only [Option.some.injEq, Obj.cells.injEq] at hg
        exact hr x hx hg.2.1
      exact .inr ⟨g1, cap, cur1, e1, hb, (ht.block g1 (heap_lt hgg) hne hne).trans hgg, rest⟩
  · rcases List.mem_cons.1 hx with e | hx
    · subst e
      exact ⟨hk, rfl, fun e => hbg e.symm⟩
    · obtain ⟨h1, h2, h3⟩ := h.os x (List.mem_cons_of_mem _ hx)
      exact ⟨(ht.block x.1 (heap_lt h1) (ho x hx) (ho x hx)).trans h1, h2, h3⟩
theorem Lw.swapO {x y : Nat × Obj} (h : Lw w0 w b M R rows (x :: y :: os)) : Lw w0 w b M R rows (y :: x :: os) :=
  h.sub (fun _ hx => hx) (fun z hz => by
    rcases List.mem_cons.1 hz with e | hz
    · exact e ▸ List.mem_cons_of_mem _ List.mem_cons_self
    · rcases List.mem_cons.1 hz with e | hz
      · exact e ▸ List.mem_cons_self
      · exact List.mem_cons_of_mem _ (List.mem_cons_of_mem _ hz))
/-- Sample beside a Recovery -/
theorem lw_sample {t eb d : Nat} {zs : List Int} {E : Obj} {c : Int} (h : Lw w0 w b M R rows ((t, tkO zs) :: (eb, E) :: os)) (he : EstOk E d c) (hd1 : 1 ≤ d) (hd2 : d ≤ 20) (hc : 0 ≤ c) (hr : ∀ x ∈ rows, x.e ≠ 65) (hte : t ≠ eb) (ho : ∀ x ∈ os, x.1 ≠ eb) (hb : w0.heap.size ≤ eb) (r : Int) (hre : r = 2 * (d : Int)) :
    Calls Tryz.prog 14 #[.pointer (some ⟨eb, 0, none⟩), .int .i64 r, .int .i64 0] w fun e w' => e = .returned (.tuple #[]) ∧ ∃ E', EstOk E' d (c + 1) ∧ Lw w0 w' b M R rows ((t, tkO zs) :: (eb, E') :: os) := by
  subst hre
  have ho2 : ∀ x ∈ (t, tkO zs) :: os, x.1 ≠ eb := fun x hx => by
    rcases List.mem_cons.1 hx with e | hx
    · subst e; exact hte
    · exact ho x hx
  rcases he with ⟨h0, rfl⟩ | ⟨h0, v, hv0, hv1, rfl⟩
  · refine (es_first eb (2 * (d : Int)) 80 20 w (h.at (List.mem_cons_of_mem _ List.mem_cons_self)) (by omega) (by omega)).mono ?_
    rintro e w' ⟨rfl, h1, h2⟩
    exact ⟨rfl, esO (8 * (2 * (d : Int))) (2 * (2 * (d : Int))) (2 * (d : Int)) (2 * (d : Int)), .inr ⟨by omega, _, by omega, by omega, rfl⟩, (h.swapO.turnO (by decide) h1 h2 hr ho2 hb).swapO⟩
  · refine (es_more eb (2 * (d : Int)) v w (h.at (List.mem_cons_of_mem _ List.mem_cons_self)) (by omega) (by omega) hv0 hv1).mono ?_
    rintro e w' ⟨rfl, h1, h2⟩
    exact ⟨rfl, esO (8 * (2 * (d : Int))) (v - v / 4) (2 * (d : Int)) (2 * (d : Int)), .inr ⟨by omega, _, by omega, by omega, rfl⟩, (h.swapO.turnO (by decide) h1 h2 hr ho2 hb).swapO⟩
/-- LossDelay beside a Recovery -/
theorem lw_delay {t eb d : Nat} {zs : List Int} {E : Obj} {c : Int} (h : Lw w0 w b M R rows ((t, tkO zs) :: (eb, E) :: os)) (he : EstOk E d c) (hd1 : 1 ≤ d) (hd2 : d ≤ 20) :
    Calls Tryz.prog 16 #[.pointer (some ⟨eb, 0, none⟩)] w fun e w' => ∃ dl : Int, e = .returned (.int .i64 dl) ∧ 0 ≤ dl ∧ dl ≤ 1000 ∧ (0 < c → 2 * (d : Int) < dl) ∧ Below w.heap.size w w' := by
  have hE := h.at (List.mem_cons_of_mem _ List.mem_cons_self)
  rcases he with ⟨h0, rfl⟩ | ⟨h0, v, hv0, hv1, rfl⟩
  · refine (es_delay eb 10 20 0 0 w hE (by decide) (by decide) (by decide) (by decide)).mono ?_
    rintro e w' ⟨rfl, h1⟩
    exact ⟨_, rfl, by decide, by decide, fun h => by omega, h1⟩
  · refine (es_delay eb (2 * (d : Int)) v (2 * (d : Int)) (2 * (d : Int)) w hE (by omega) (by omega) (Int.le_refl _) (by omega)).mono ?_
    rintro e w' ⟨rfl, h1⟩
    exact ⟨_, rfl, by omega, by omega, fun _ => by omega, h1⟩
end Go.Proofs.YtpfkeohaaeiaaaaGreat
/- Law 13b: what a packet's arrival does. -/
namespace Go.Proofs.YtpfkeohaaeiaaaaGreat
open Go.RowKit Go.WideShapes Go.ChangeShapes
variable {w0 w w' : World} {b M : Nat} {R : Rc} {rows : List Rw} {os : List (Nat × Obj)} {zs : List Int} {n : Nat} {c nx : Int} {s : List Nat} {tau : Int → Int}
/-- a Tracker behind Receive -/
def GotIt (w0 w' : World) (b M t eb : Nat) (R : Rc) (rows : List Rw) (E : Obj) (zs : List Int) (n : Nat) (c now : Int) (s : List Nat) (a : Nat) (zs' : List Int) (n' : Nat) (top' few' : Int) : Prop :=
  Lw w0 w' b M R rows [(t, tkO zs'), (eb, E)] ∧ TkOk zs' n' top' (max R.lg (c + (a : Int))) now few' ∧ (∀ x, covB zs' n' x = (covB zs n x || decide (x = c + (a : Int)))) ∧ few' ≤ c + ((s ++ [a]).length : Int)
theorem lw_recv {t eb a : Nat} {E : Obj} {now : Int} (h : Lw w0 w b M R rows [(t, tkO zs), (eb, E)]) (hn : NsOk R zs n c s nx tau now) (hx : Nxt s a) (c0 : 0 ≤ c) (c1 : c ≤ 1000) (n0 : 0 ≤ now) (n1 : now ≤ 1000000) (hs3 : s.length ≤ 3) (hr : ∀ x ∈ rows, x.e ≠ 70) (hte : eb ≠ t) (hb : w0.heap.size ≤ t) :
    Calls Tryz.prog 12 #[.pointer (some ⟨t, 0, none⟩), .int .i64 now, .int .i64 (c + (a : Int)), .bool true] w fun e w' => e = .returned (.int .i64 0) ∧ ∃ zs' n' top' few', GotIt w0 w' b M t eb R rows E zs n c now s a zs' n' top' few' := by
  obtain ⟨top, wh, few, k1, k2, k3, k4, k5⟩ := hn.tk
  obtain ⟨g1, g2, g3⟩ := near_of k1 hn.cov c0 hx
  have ha := hx.a2
  have hlgb : R.lg ≤ c + 2 := by
    rcases hn.lgc with h1 | h1
    · omega
    · rw [hn.cov] at h1
      rcases shB_iff.1 h1 with h2 | ⟨b', hb', h2⟩
      · omega
      · have := hx.lt b' hb'; omega
  have hne : R.lg ≠ c + (a : Int) := fun e => by
    rcases hn.lgc with h1 | h1
    · omega
    · rw [e, g3] at h1; cases h1
  have hwh : now = if R.lg < c + (a : Int) then now else wh := by
    by_cases h1 : R.lg < c + (a : Int)
    · rw [if_pos h1]
    · rw [if_neg h1]
      rcases k5 with rfl | h2
      · rcases hn.lgc with h3 | h3
        · omega
        · rw [hn.cov] at h3
          rcases shB_iff.1 h3 with h4 | ⟨b', hb', _⟩
          · omega
          · cases hb'
      · exact h2.symm
  refine (recv_gen t now (c + (a : Int)) w (h.tk (t := t) (zs := zs) (by simp) k1.len) k1 g1 g3 g2 (by omega) (by omega) hn.lg0 (by omega) hne n0 (by omega) (by omega) (max R.lg (c + (a : Int))) now rfl hwh).mono ?_
  rintro e w' ⟨rfl, zs', n', T2, ok2, hcov, ht2⟩
  exact ⟨rfl, zs', n', _, _, h.turnK T2 ht2 hr (by simp; exact hte) hb, ok2, hcov, by rw [List.length_append]; push_cast; simp; omega⟩
theorem fr_row2 {W : World} {B B' n : Nat} {v : Value} {zs : List Int} (h : W.ownsRow B' 54 2 v n (scs (rowK zs n n))) (hb : B ≤ B') : W.ownsRow B (spR v (rowK zs n n)).e (spR v (rowK zs n n)).z (spR v (rowK zs n n)).v (spR v (rowK zs n n)).n (spR v (rowK zs n n)).xs := by
  show W.ownsRow B 54 2 v (rowK zs n n).length (scs (rowK zs n n))
  rw [rowK_len]
  exact ownsRow_base_a h hb
/-- the ACK frame of the packet that came -/
theorem lw_frame {t : Nat} {top lg now few : Int} (h : Lw w0 w b M R rows os) (hx : (t, tkO zs) ∈ os) (ok : TkOk zs n top lg now few) (hn : 1 ≤ n) (n0 : 0 ≤ now) (n1 : now ≤ 1000000) :
    Calls Tryz.prog 13 #[.pointer (some ⟨t, 0, none⟩), .int .i64 now] w fun e w' => ∃ g, e = .returned (.tuple #[.agg (ackE 0 (.slice (some ⟨g, 0, none⟩) n n)), .bool true]) ∧ Lw w0 w' b M R (spR (.slice (some ⟨g, 0, none⟩) n n) (rowK zs n n) :: rows) os := by
  have F := frame_any t now w (h.tk hx ok.len) ok hn n0 (by omega) n0 (by omega)
  rw [if_neg (Int.lt_irrefl now)] at F
  refine F.mono ?_
  rintro e w' ⟨g, rfl, h1, h2⟩
  exact ⟨g, rfl, (h.below h2).addRow _ (fr_row2 h1 h.bel.size) (show (54 : Nat) ≠ 59 by decide)⟩
/-- and its arrival: nothing is lost -/
theorem lw_ackn {v : Value} {a m : Nat} {top' few' now nowd dl j : Int} {zs' : List Int} {n' : Nat} (h : Lw w0 w b M R rows os) (hv : spR v (rowK zs' n' n') ∈ rows) (hn : NsOk R zs n c s nx tau nowd) (c0 : 0 ≤ c) (ok : TkOk zs' n' top' (max R.lg (c + (a : Int))) nowd few')
    (hcov : ∀ x, covB zs' n' x = (covB zs n x || decide (x = c + (a : Int)))) (hf : few' ≤ c + ((s ++ [a]).length : Int)) (nd0 : 0 ≤ nowd) (nd1 : nowd ≤ 1000000) (hm : ∀ b ∈ s ++ [a], b < m) (hm3 : m ≤ 3) (htau : ∀ x, c ≤ x → x < c + (m : Int) → tau x = j) (hj : now - dl < j) (hnx : c + (m : Int) ≤ nx) (hnx2 : nx ≤ 900)
    (n0 : 0 ≤ now) (n1 : now ≤ 1000000) (d0 : 0 ≤ dl) (d1 : dl ≤ 1000) :
    Calls Tryz.prog 15 #[.pointer (some ⟨b, 0, none⟩), .int .i64 now, .agg (ackE 0 v), .int .i64 dl] w fun e w' => ∃ va, e = .returned (.tuple #[va, .slice none 0 0, .int .i64 0]) ∧ ∃ R', NsOk R' zs' n' c (s ++ [a]) nx tau nowd ∧ Lw w0 w' b M R' rows os := by
  obtain ⟨r1, r2, r3, r4⟩ := hn.ack c0 ok hcov hf nd0 nd1 rfl (fun p hp => (h.ok.up.bnd p hp).1) hm hm3 htau hj hnx
  have hcm : ∀ x, covB zs' n' x = true → x ≤ 900 := fun x hx => by
    rw [hcov, Bool.or_eq_true, decide_eq_true_eq] at hx
    have ha := hm a (by simp)
    rcases hx with hx | hx
    · rw [hn.cov] at hx
      rcases shB_iff.1 hx with h4 | ⟨b', hb', h4⟩
      · omega
      · have := hm b' (by simp [hb']); omega
    · omega
  have ok2 : TkOk zs' n' 1000 (max R.lg (c + (a : Int))) nowd few' := by
    refine ⟨ok.len, ok.many, ok.le, fun k hk => ?_, ok.gap, ok.size, by decide, ok.dl0, ok.dl1, ok.fl, ok.lg, ok.wh, ok.c0, ok.c1, ok.d0, ok.d1⟩
    have h1 := ok.rg k hk
    have h2 := hcm (zg zs' (k * 2 + 1) - 1) (covB_iff.2 ⟨k, hk, by omega, by omega⟩)
    omega
  have SP := h.spans (v := v) (l := rowK zs' n' n') hv (by rw [rowK_len]; omega)
  rw [rowK_len] at SP
  refine (lw_ack h 0 v n' (fF (rowK zs' n' n')) (fT (rowK zs' n' n')) now dl (by decide) (by decide) (row_rg ok2 r1 (by decide)) SP.1 n0 d0 (by omega) (by omega) (by rw [hn.nx]; exact r2) SP.2.1).mono ?_
  rintro e w' ⟨va, vl, rfl, na, nl, h'⟩
  rw [r3] at nl h'
  obtain rfl := nl.2 rfl
  exact ⟨va, rfl, _, r4, h'.sub (fun x hx => List.mem_cons_of_mem _ (List.mem_cons_of_mem _ hx)) (fun _ hx => hx)⟩
end Go.Proofs.YtpfkeohaaeiaaaaGreat
