import Derived.Test.YtmjekepiplibkaaB
namespace Go.Proofs.Ytmjekepiplibkaa
open Go.RowKit
theorem own_cells {w : World} {e : TypeId} {v : Value} {n : Nat} {xs : List Int} {k : IntKind} (h : w.ownsRow 0 e 1 v n (xs.map (.int k))) (h0 : 0 < n) :
    ∃ g cap, v = .slice (some ⟨g, 0, none⟩) n cap ∧ n ≤ cap ∧ cap ≤ maxLen ∧ (∀ j, j < n → w.cell? ⟨g, j, none⟩ = some (.int k (xs[j]?.getD 0))) ∧ (∀ j, w.frozen? ⟨g, j, none⟩ = false) := by
  obtain ⟨hl, h⟩ := h
  rcases h with ⟨_, rfl⟩ | ⟨g, cap, cur, rfl, hb, hg, hn, hc, hs, ht⟩
  · omega
  · refine ⟨g, cap, rfl, hn, hc, fun j hj => ?_, frozen_whole hg⟩
    have hj2 : j < xs.length := by simp at hl; omega
    have : (cur.toList.take (n * 1))[j]? = some (.int k (xs[j]?.getD 0)) := by rw [ht]; simp [hj2]
    rw [List.getElem?_take_of_lt (by omega)] at this
    simp only [World.cell?, hg]
    simpa using this
def runGo (most : Int) : List Int → Int → Int → Int → Int × Int
  | [], _, f, t => (f, t)
  | s :: l, i, f, t => if f < t ∧ (s ≠ 2 ∨ t - f = most) then (f, t) else if s = 2 ∧ t = f then runGo most l (i + 1) i (i + 1) else if s = 2 then runGo most l (i + 1) f (t + 1) else runGo most l (i + 1) f t
def runF (B : Bf) (most : Int) : Int × Int := runGo most B.st 0 0 0
set_option maxHeartbeats 1000000 in
theorem run_any (b : Nat) (F : Nat → Prop) (B : Bf) (most : Int) (w : World) (h : Inv w b F B) (hg : Good B) :
    Calls Try.prog 30 #[.pointer (some ⟨b, 0, none⟩), .int .i64 most] w fun e w' => e = .returned (.tuple #[.int .i64 (runF B most).1, .int .i64 (runF B most).2]) ∧ w' = w := by
  obtain ⟨vd, vs, h⟩ := h
  have hn9 : B.st.length ≤ 8192 := by have := hg.len; have := hg.cap; have := hg.l2; omega
  have HF := Lib.hid (own_cells h.rs)
  obtain ⟨a, cap, rfl, hcap⟩ := own_form h.rs
  obtain ⟨c0, c1, c2, c3, c4, c5, c6, fr⟩ := h.facts
  clear c0 c1 c2 c4 c5 c6 hg
  obtain ⟨RES, hres⟩ : ∃ R, runF B most = R := ⟨_, rfl⟩
  rw [hres]
  unfold runF at hres
  have HRES := Lib.hid hres
  clear hres
  generalize B.st = st at *
  go_enter Try.func30, Try.ntmps30
  go_wp2
  go_step3
  go_wp2
  go_step3
  go_wp2
  have hdrop : ∀ k, k < st.length → st.drop k = (st[k]?.getD 0) :: st.drop (k + 1) := fun k hk => by rw [List.drop_eq_getElem_cons hk]; simp [hk]
  have HD := Lib.hid hdrop
  clear hdrop
  go_loopw [4, 5, 13] (fun f t i wr => ∃ (k : Nat) (x y : Int), k ≤ st.length ∧ i = .int .i64 k ∧ f = .int .i64 x ∧ t = .int .i64 y ∧ 0 ≤ x ∧ x ≤ y ∧ y ≤ k ∧ runGo most (st.drop k) k x y = RES ∧ wr = w) (fun _ _ i _ => st.length - (intOf i).toNat)
  case atStart => exact ⟨0, 0, 0, by omega, rfl, rfl, rfl, by omega, by omega, by omega, HRES.out, rfl⟩
  case round =>
    obtain ⟨k, x, y, hk, rfl, rfl, rfl, hx0, hxy, hyk, hR, rfl⟩ := hrel
    by_cases hlt : k < st.length
    · obtain ⟨g, cp, e, hc1, hc2, hcell, hfr⟩ := HF.out (by omega)
      simp only [Value.slice.injEq] at e
      obtain ⟨rfl, _, rfl⟩ := e
      have e1 := hcell k hlt
      unfold maxLen at hc2
      rw [HD.out k hlt, runGo] at hR
      clear hcell hfr
      obtain ⟨s, hs⟩ : ∃ s, st[k]?.getD 0 = s := ⟨_, rfl⟩
      rw [hs] at e1 hR
      clear hs
      by_cases ht : x < y
      · by_cases hs2 : s = 2
        · subst hs2
          by_cases hm : y - x = most
          · have HE : Hid ((x, y) = RES) := Lib.hid (by rw [if_pos ⟨ht, .inr hm⟩] at hR; exact hR)
            clear hR
            go_wp2
            rw [Exit.noGoto_ret]
            go_returns
            exact ⟨by rw [← HE.out]; rfl, rfl⟩
          · rw [if_neg (by rintro ⟨_, h | h⟩ <;> omega), if_neg (by omega), if_pos rfl] at hR
            have HE := Lib.hid hR
            clear hR
            go_wp2
            go_roundw
            case rel => exact ⟨k + 1, x, y + 1, by omega, by simp, rfl, rfl, by omega, by omega, by omega, HE.out, trivial⟩
            case measure => simp [intOf]; omega
        · have HE : Hid ((x, y) = RES) := Lib.hid (by rw [if_pos ⟨ht, .inl hs2⟩] at hR; exact hR)
          clear hR
          go_wp2
          rw [Exit.noGoto_ret]
          go_returns
          exact ⟨by rw [← HE.out]; rfl, rfl⟩
      · obtain rfl : x = y := by omega
        rw [if_neg (by omega)] at hR
        by_cases hs2 : s = 2
        · subst hs2
          rw [if_pos ⟨rfl, rfl⟩] at hR
          have HE := Lib.hid hR
          clear hR
          go_wp2
          go_roundw
          case rel => exact ⟨k + 1, k, k + 1, by omega, by simp, rfl, by simp, by omega, by omega, by omega, HE.out, trivial⟩
          case measure => simp [intOf]; omega
        · rw [if_neg (by omega), if_neg hs2] at hR
          have HE := Lib.hid hR
          clear hR
          go_wp2
          go_roundw
          case rel => exact ⟨k + 1, x, x, by omega, by simp, rfl, rfl, by omega, by omega, by omega, HE.out, trivial⟩
          case measure => simp [intOf]; omega
    · obtain rfl : k = st.length := by omega
      rw [List.drop_length, runGo] at hR
      have HE := Lib.hid hR
      clear hR
      go_wp2
      rw [Exit.noGoto_ret]
      go_returns
      exact ⟨by rw [← HE.out]; rfl, rfl⟩
end Go.Proofs.Ytmjekepiplibkaa
