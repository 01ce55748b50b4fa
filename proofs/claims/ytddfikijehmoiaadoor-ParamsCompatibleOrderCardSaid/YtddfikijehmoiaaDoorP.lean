/- Law 20: plain laws: varint's encoding and decoding are inverse; the parse of six numbers. -/
import Derived.Test.YtddfikijehmoiaaDoorG
import Derived.Test.YtddfikijehmoiaaDoorC
namespace Go.Proofs.YtddfikijehmoiaaDoor
theorem beB_snoc (w : Nat) (N : Int) : beB (w + 1) N = beB w (N / 256) ++ [N % 256] := by
  unfold beB
  rw [List.range_succ, List.map_append]
  congr 1
  · apply List.map_congr_left
    intro j hj
    have hj' : j < w := List.mem_range.1 hj
    have e : 8 * (w + 1 - 1 - j) = 8 + 8 * (w - 1 - j) := by omega
    rw [e, Int.pow_add, ← Int.ediv_ediv_of_nonneg (by decide)]
    rfl
  · simp
theorem beB_range (w : Nat) (N : Int) : ∀ x ∈ beB w N, 0 ≤ x ∧ x ≤ 255 := by
  intro x hx
  obtain ⟨j, _, rfl⟩ := List.mem_map.1 hx
  omega
theorem beN_beB : ∀ (w : Nat) (N : Int), 0 ≤ N → N < 256 ^ w → beN (beB w N) = N := by
  intro w
  induction w with
  | zero => intro N h0 h1; simp at h1; have : N = 0 := by omega
            subst this; rfl
  | succ w ih =>
    intro N h0 h1
    rw [beB_snoc, beN_snoc, ih (N / 256) (by omega) (by rw [Int.pow_succ] at h1; omega)]
    omega
theorem beB_beN (l : List Int) (h : ∀ x ∈ l, 0 ≤ x ∧ x ≤ 255) : beB l.length (beN l) = l := by
  have key : ∀ (k : Nat) (l : List Int), l.length = k → (∀ x ∈ l, 0 ≤ x ∧ x ≤ 255) → beB k (beN l) = l := by
    intro k
    induction k with
    | zero => intro l e _; have := List.length_eq_zero_iff.1 e; subst this; rfl
    | succ k ih =>
      intro l e h
      rcases List.eq_nil_or_concat l with rfl | ⟨l', x, rfl⟩
      · simp at e
      · simp at e
        have hx := h x (by simp)
        rw [List.concat_eq_append, beN_snoc, beB_snoc]
        have e1 : (beN l' * 256 + x) / 256 = beN l' := by omega
        have e2 : (beN l' * 256 + x) % 256 = x := by omega
        rw [e1, e2, ih l' e (fun y hy => h y (by simp [hy]))]
  exact key _ l rfl h
theorem cls_case (n : Int) (h : 0 ≤ cls n) : 0 ≤ n ∧ ((cls n = 0 ∧ n ≤ 63) ∨ (cls n = 1 ∧ 63 < n ∧ n ≤ 16383) ∨ (cls n = 2 ∧ 16383 < n ∧ n ≤ 1073741823) ∨ (cls n = 3 ∧ 1073741823 < n ∧ n ≤ 4611686018427387903)) := by
  unfold cls at h ⊢
  (repeat' split at h) <;> simp_all <;> omega
theorem encV_eq (n : Int) (c : Int) (hc : 0 ≤ c) (h : cls n = c) : encV n = beB (2 ^ c.toNat) (n + c * 2 ^ (8 * 2 ^ c.toNat - 2)) := by
  subst h
  unfold encV
  rw [if_neg (by omega)]
theorem encV_len (n : Int) : ((encV n).length : Int) = wid n := by
  unfold encV wid
  split
  · rfl
  · rw [beB_len]; simp
theorem encV_range (n : Int) : ∀ x ∈ encV n, 0 ≤ x ∧ x ≤ 255 := by
  unfold encV
  split
  · intro x hx; simp at hx
  · exact beB_range _ _
theorem beB_head (w : Nat) (N : Int) : (beB (w + 1) N)[0]? = some (N / 2 ^ (8 * w) % 256) := by
  unfold beB
  rw [List.getElem?_map]
  simp
/-- what was encoded is decoded -/
theorem decV_enc (n : Int) (h : 0 ≤ cls n) (pre suf : List Int) : decV (pre ++ (encV n ++ suf)) pre.length = (n, pre.length + wid n, 0) := by
  obtain ⟨h0, hc⟩ := cls_case n h
  have key : ∀ (c : Int) (w : Nat) (C M : Int), 0 ≤ c → cls n = c → 2 ^ c.toNat = w + 1 → C = c * 2 ^ (8 * (w + 1) - 2) → M = 2 ^ (8 * (w + 1) - 2) → (n + C) % M = n → (n + C) / 2 ^ (8 * w) % 256 / 64 = c → 0 ≤ n + C → n + C < 256 ^ (w + 1) → decV (pre ++ (encV n ++ suf)) pre.length = (n, pre.length + wid n, 0) := by
    intro c w C M hc0 hcl hw hC hM hmod hhead hN0 hN1
    have e := encV_eq n c hc0 hcl
    rw [hw, ← hC] at e
    have hwid : wid n = (w : Int) + 1 := by
      unfold wid; rw [hcl, if_neg (by omega)]
      have := congrArg (Nat.cast (R := Int)) hw
      simpa using this
    have hlen : (encV n).length = w + 1 := by rw [e, beB_len]
    have hat : (pre ++ (encV n ++ suf))[pre.length]? = some ((n + C) / 2 ^ (8 * w) % 256) := by
      rw [List.getElem?_append_right (Nat.le_refl _), Nat.sub_self, List.getElem?_append_left (by omega), e, beB_head]
    have hdrop : ((pre ++ (encV n ++ suf)).drop pre.length).take (w + 1) = encV n := by
      rw [List.drop_left, ← hlen, List.take_left]
    unfold decV
    rw [if_neg (by simp; omega), if_neg (by simp; omega), Int.toNat_natCast, hat, Option.getD_some, hhead]
    simp only [hw]
    rw [if_neg (by simp; omega), hdrop, e, beN_beB _ _ hN0 hN1, ← hM, hmod, if_pos hcl, hwid]
    simp
  rcases hc with ⟨hcl, h1⟩ | ⟨hcl, h1, h2⟩ | ⟨hcl, h1, h2⟩ | ⟨hcl, h1, h2⟩
  · exact key 0 0 0 64 (by decide) hcl rfl rfl rfl (by omega) (by simp; omega) (by omega) (by simp; omega)
  · exact key 1 1 16384 16384 (by decide) hcl rfl rfl rfl (by omega) (by simp; omega) (by omega) (by simp; omega)
  · exact key 2 3 2147483648 1073741824 (by decide) hcl rfl rfl rfl (by omega) (by simp; omega) (by omega) (by simp; omega)
  · exact key 3 7 13835058055282163712 4611686018427387904 (by decide) hcl rfl rfl rfl (by omega) (by simp; omega) (by omega) (by simp; omega)
/-- what is decoded was encoded -/
theorem decV_ok (l : List Int) (a : Nat) (hl : ∀ x ∈ l, 0 ≤ x ∧ x ≤ 255) (n b : Int) (h : decV l a = (n, b, 0)) :
    0 ≤ cls n ∧ b = a + wid n ∧ b ≤ l.length ∧ (l.drop a).take (encV n).length = encV n := by
  unfold decV at h
  split at h
  · cases h
  · rename_i ha
    split at h
    · cases h
    · rename_i ha2
      simp only [Int.toNat_natCast] at h
      have hal : a < l.length := by omega
      obtain ⟨x, hx⟩ : ∃ x, l[a]? = some x := ⟨_, List.getElem?_eq_getElem hal⟩
      rw [hx, Option.getD_some] at h
      have hxr := hl x (List.mem_of_getElem? hx)
      have hc : x / 64 = 0 ∨ x / 64 = 1 ∨ x / 64 = 2 ∨ x / 64 = 3 := by omega
      have key : ∀ (c : Int) (w : Nat) (M : Int), 0 ≤ c → x / 64 = c → 2 ^ c.toNat = w + 1 → M = 2 ^ (8 * (w + 1) - 2) →
          (∀ N : Int, 0 ≤ N → N < 256 ^ (w + 1) → N / 2 ^ (8 * w) % 256 = x → N % M + c * 2 ^ (8 * (w + 1) - 2) = N) →
          0 ≤ cls n ∧ b = a + wid n ∧ b ≤ l.length ∧ (l.drop a).take (encV n).length = encV n := by
        intro c w M hc0 hxc hw hM hN
        rw [hxc, hw, ← hM] at h
        split at h
        · cases h
        · rename_i hshort
          split at h
          · rename_i hcl
            simp only [Prod.mk.injEq] at h
            obtain ⟨hn, hb, _⟩ := h
            rw [hn] at hcl
            have hwid : wid n = (w : Int) + 1 := by
              unfold wid; rw [hcl, if_neg (by omega)]
              have := congrArg (Nat.cast (R := Int)) hw
              simpa using this
            have hch : ((l.drop a).take (w + 1)).length = w + 1 := by rw [List.length_take, List.length_drop]; omega
            have hr : ∀ y ∈ (l.drop a).take (w + 1), 0 ≤ y ∧ y ≤ 255 := fun y hy => hl y (List.mem_of_mem_drop (List.mem_of_mem_take hy))
            have hB := beB_beN _ hr
            rw [hch] at hB
            have hbd := beN_bound _ hr
            rw [hch] at hbd
            have h0 := beB_head w (beN ((l.drop a).take (w + 1)))
            rw [hB, List.getElem?_take_of_lt (by omega), List.getElem?_drop, Nat.add_zero, hx] at h0
            have hfin := hN _ hbd.1 hbd.2 (Option.some.inj h0).symm
            rw [hn] at hfin
            have e := encV_eq n c hc0 hcl
            rw [hw, hfin, hB] at e
            refine ⟨by omega, by rw [hwid]; omega, by omega, ?_⟩
            rw [e, hch]
          · cases h
      rcases hc with hc | hc | hc | hc
      · exact key 0 0 64 (by decide) hc rfl rfl (fun N h1 h2 h3 => by simp at h2 h3 ⊢; omega)
      · exact key 1 1 16384 (by decide) hc rfl rfl (fun N h1 h2 h3 => by simp at h2 h3 ⊢; omega)
      · exact key 2 3 1073741824 (by decide) hc rfl rfl (fun N h1 h2 h3 => by simp at h2 h3 ⊢; omega)
      · exact key 3 7 4611686018427387904 (by decide) hc rfl rfl (fun N h1 h2 h3 => by simp at h2 h3 ⊢; omega)
/-- the first k numbers, and where they end -/
def parse (l : List Int) : Nat → Option (List Int × Int)
  | 0 => some ([], 0)
  | k + 1 => (parse l k).bind fun r => if (decV l r.2).2.2 = 0 then some (r.1 ++ [(decV l r.2).1], (decV l r.2).2.1) else none
theorem parse_none (l : List Int) (k j : Nat) (h : parse l k = none) : parse l (k + j) = none := by
  induction j with
  | zero => exact h
  | succ j ih => rw [← Nat.add_assoc, parse, ih]; rfl
def flat (ns : List Int) : List Int := ns.flatMap encV
theorem flat_snoc (ns : List Int) (n : Int) : flat (ns ++ [n]) = flat ns ++ encV n := by simp [flat]
theorem parse_enc : ∀ (k : Nat) (ns suf : List Int), ns.length = k → (∀ n ∈ ns, 0 ≤ cls n) → parse (flat ns ++ suf) k = some (ns, ((flat ns).length : Int)) := by
  intro k
  induction k with
  | zero => intro ns suf e _; have := List.length_eq_zero_iff.1 e; subst this; rfl
  | succ k ih =>
    intro ns suf e h
    rcases List.eq_nil_or_concat ns with rfl | ⟨ns', n, rfl⟩
    · simp at e
    · rw [List.concat_eq_append] at *
      simp at e
      rw [parse, flat_snoc, List.append_assoc, ih ns' _ e (fun x hx => h x (by simp [hx]))]
      simp only [Option.bind_some]
      rw [decV_enc n (h n (by simp)), if_pos rfl]
      simp [encV_len]
theorem parse_ok (l : List Int) (hl : ∀ x ∈ l, 0 ≤ x ∧ x ≤ 255) : ∀ (k : Nat) (ns : List Int) (b : Int), parse l k = some (ns, b) →
    ns.length = k ∧ (∀ n ∈ ns, 0 ≤ cls n) ∧ 0 ≤ b ∧ b ≤ l.length ∧ l.take b.toNat = flat ns := by
  intro k
  induction k with
  | zero => intro ns b h; simp [parse] at h; obtain ⟨rfl, rfl⟩ := h; simp [flat]
  | succ k ih =>
    intro ns b h
    rw [parse] at h
    cases hp : parse l k with
    | none => rw [hp] at h; cases h
    | some r =>
      obtain ⟨ms, a⟩ := r
      rw [hp] at h
      simp only [Option.bind_some] at h
      obtain ⟨h1, h2, h3, h4, h5⟩ := ih ms a hp
      split at h
      · rename_i he
        simp only [Option.some.injEq, Prod.mk.injEq] at h
        obtain ⟨rfl, rfl⟩ := h
        obtain ⟨m, rfl⟩ := Int.eq_ofNat_of_zero_le h3
        obtain ⟨g1, g2, g3, g4⟩ := decV_ok l m hl _ _ (show decV l m = ((decV l m).1, (decV l m).2.1, 0) by rw [← he])
        have hw := encV_len (decV l m).1
        refine ⟨by simp [h1], ?_, by omega, g3, ?_⟩
        · intro x hx
          rcases List.mem_append.1 hx with hx | hx
          · exact h2 x hx
          · simp at hx; subst hx; exact g1
        · have e : (decV l m).2.1.toNat = m + (encV (decV l m).1).length := by rw [g2, ← hw]; omega
          rw [flat_snoc, ← h5, Int.toNat_natCast]
          show l.take (decV l m).2.1.toNat = _
          rw [e, List.take_add, g4]
      · cases h
end Go.Proofs.YtddfikijehmoiaaDoor
