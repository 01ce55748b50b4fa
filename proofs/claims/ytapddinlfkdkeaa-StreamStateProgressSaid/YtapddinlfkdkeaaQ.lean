/- 'reach': how many events are still wanted, at most n of them tried. -/
import Derived.Test.YtapddinlfkdkeaaP
import Derived.BigGuardPart
namespace Go.Proofs.Ytapddinlfkdkeaa
open Go.RowKit Go.Shelf Go.Proofs
def nextF (b : Bool) (s v : Int) : Int × Int := if b then sF s v else rF s v
/-- the best after v events of ten have been tried, what is behind the next state being told by f -/
def bestTo (f : Int → Int) (b : Bool) (s : Int) : Nat → Int
  | 0 => 9
  | v + 1 => if (nextF b s (v + 1)).2 = 0 ∧ (nextF b s (v + 1)).1 ≠ s then min (bestTo f b s v) (1 + f (nextF b s (v + 1)).1) else bestTo f b s v
def reachF : Nat → Bool → Int → Int
  | 0, _, s => if sdF s then 0 else 9
  | n + 1, b, s => if sdF s then 0 else bestTo (reachF n b) b s 10
theorem bestTo_range (f : Int → Int) (hf : ∀ s, 0 ≤ f s) (b : Bool) (s : Int) (v : Nat) : 0 ≤ bestTo f b s v ∧ bestTo f b s v ≤ 9 := by
  induction v with
  | zero => simp [bestTo]
  | succ v ih =>
    unfold bestTo
    have := hf (nextF b s (v + 1)).1
    split <;> omega
theorem reachF_range (n : Nat) (b : Bool) : ∀ s, 0 ≤ reachF n b s ∧ reachF n b s ≤ 9 := by
  induction n with
  | zero => intro s; unfold reachF; split <;> omega
  | succ n ih =>
    intro s; unfold reachF; split
    · omega
    · exact bestTo_range _ (fun s => (ih s).1) b s 10
set_option maxRecDepth 100000 in
set_option maxHeartbeats 2000000 in
theorem reach_any (n : Nat) : ∀ (b : Bool) (s : Int) (w : World), n ≤ 100 →
    Calls Try.prog 18 #[.int .i64 s, .bool b, .int .i64 n] w fun e w' => e = .returned (.int .i64 (reachF n b s)) ∧ Below w.heap.size w w' := by
  induction n with
  | zero =>
    intro b s w _
    obtain ⟨d, hd⟩ : ∃ d, sdF s = d := ⟨_, rfl⟩
    have H := Lib.hid hd
    have HR : Hid (reachF 0 b s = if d then 0 else 9) := Lib.hid (by unfold reachF; rw [hd])
    clear hd
    cases b
    all_goals cases d
    all_goals
      go_enter Try.func18, Try.ntmps18
      go_wp2_with (first | (go_at_call 13; refine (sdone_c _ _ H.out _).mono ?_; rintro e w7 ⟨rfl, rfl⟩) | (go_at_call 15; refine (rdone_c _ _ H.out _).mono ?_; rintro e w7 ⟨rfl, rfl⟩))
      go_ret
      exact ⟨by rw [HR.out]; rfl, Below.refl _ _⟩
  | succ n ih =>
    intro b s w hn
    obtain ⟨d, hd⟩ : ∃ d, sdF s = d := ⟨_, rfl⟩
    have H := Lib.hid hd
    have IH := Lib.hid ih
    have HR : Hid (reachF (n + 1) b s = if d then 0 else bestTo (reachF n b) b s 10) := Lib.hid (by unfold reachF; rw [hd])
    have HG := Lib.hid (reachF_range n b)
    clear hd ih
    have hn0 : ((n : Int) + 1 == 0) = false := by simp; omega
    cases d
    · cases b
      · go_enter Try.func18, Try.ntmps18
        go_wp2_with (first | (go_at_call 13; refine (sdone_c _ _ H.out _).mono ?_; rintro e w7 ⟨rfl, rfl⟩) | (go_at_call 15; refine (rdone_c _ _ H.out _).mono ?_; rintro e w7 ⟨rfl, rfl⟩))
        go_loopw [7, 8] (fun t v wr => ∃ k : Nat, k ≤ 10 ∧ v = .int .i64 ((k : Int) + 1) ∧ t = .int .i64 (bestTo (reachF n false) false s k) ∧ Below w.heap.size w wr) (fun _ v _ => 11 - (intOf v).toNat)
        case atStart => exact ⟨0, by omega, rfl, rfl, Below.refl _ _⟩
        case round =>
          obtain ⟨k, hk, rfl, rfl, hB⟩ := hrel
          by_cases hlt : k < 10
          · have HS : Hid (bestTo (reachF n false) false s (k + 1) = if (rF s ((k : Int) + 1)).2 = 0 ∧ (rF s ((k : Int) + 1)).1 ≠ s then min (bestTo (reachF n false) false s k) (1 + reachF n false (rF s ((k : Int) + 1)).1) else bestTo (reachF n false) false s k) := Lib.hid rfl
            have hr1 := bestTo_range (reachF n false) (fun s => (HG.out s).1) false s k
            obtain ⟨hr1, hr2⟩ := hr1
            have hr3 := HG.out (rF s ((k : Int) + 1)).1
            obtain ⟨hr3, hr4⟩ := hr3
            by_cases h1 : (rF s ((k : Int) + 1)).2 = 0
            · by_cases h2 : (rF s ((k : Int) + 1)).1 = s
              · have t1 : ((rF s ((k : Int) + 1)).2 == 0) = true := by simp [h1]
                have t2 : ((rF s ((k : Int) + 1)).1 != s) = false := by simp [h2]
                rw [if_neg (fun h => h.2 h2)] at HS
                clear h1 h2
                go_wp2_with (first | (go_at_call 9; refine (send_any _ _ _).mono ?_; rintro e w7 ⟨rfl, hb7⟩) | (go_at_call 11; refine (recv_any _ _ _).mono ?_; rintro e w8 ⟨rfl, hb8⟩) | (go_at_call 18; refine (IH.out false _ _ (by omega)).mono ?_; rintro e w9 ⟨rfl, hb9⟩))
                go_roundw
                case rel => exact ⟨k + 1, by omega, by simp, by rw [HS.out], (by repeat (first | assumption | exact Below.refl _ _ | refine btrans ?_ (by assumption)))⟩
                case measure => simp [intOf]; omega
              · have t1 : ((rF s ((k : Int) + 1)).2 == 0) = true := by simp [h1]
                have t2 : ((rF s ((k : Int) + 1)).1 != s) = true := by simp [h2]
                rw [if_pos ⟨h1, h2⟩] at HS
                clear h1 h2
                go_wp2_with (first | (go_at_call 9; refine (send_any _ _ _).mono ?_; rintro e w7 ⟨rfl, hb7⟩) | (go_at_call 11; refine (recv_any _ _ _).mono ?_; rintro e w8 ⟨rfl, hb8⟩) | (go_at_call 18; refine (IH.out false _ _ (by omega)).mono ?_; rintro e w9 ⟨rfl, hb9⟩))
                go_roundw
                case rel => exact ⟨k + 1, by omega, by simp, by rw [HS.out]; congr 1; rw [Int.min_def]; split <;> split <;> omega, btrans hB (by repeat (first | assumption | exact Below.refl _ _ | refine btrans ?_ (by assumption)))⟩
                case measure => simp [intOf]; omega
            · have t1 : ((rF s ((k : Int) + 1)).2 == 0) = false := by simp [h1]
              rw [if_neg (fun h => h1 h.1)] at HS
              clear h1
              go_wp2_with (first | (go_at_call 9; refine (send_any _ _ _).mono ?_; rintro e w7 ⟨rfl, hb7⟩) | (go_at_call 11; refine (recv_any _ _ _).mono ?_; rintro e w8 ⟨rfl, hb8⟩) | (go_at_call 18; refine (IH.out false _ _ (by omega)).mono ?_; rintro e w9 ⟨rfl, hb9⟩))
              go_roundw
              case rel => exact ⟨k + 1, by omega, by simp, by rw [HS.out], (by repeat (first | assumption | exact Below.refl _ _ | refine btrans ?_ (by assumption)))⟩
              case measure => simp [intOf]; omega
          · obtain rfl : k = 10 := by omega
            go_wp2
            go_ret
            exact ⟨by rw [HR.out]; rfl, hB⟩
      · go_enter Try.func18, Try.ntmps18
        go_wp2_with (first | (go_at_call 13; refine (sdone_c _ _ H.out _).mono ?_; rintro e w7 ⟨rfl, rfl⟩) | (go_at_call 15; refine (rdone_c _ _ H.out _).mono ?_; rintro e w7 ⟨rfl, rfl⟩))
        go_loopw [7, 8] (fun t v wr => ∃ k : Nat, k ≤ 10 ∧ v = .int .i64 ((k : Int) + 1) ∧ t = .int .i64 (bestTo (reachF n true) true s k) ∧ Below w.heap.size w wr) (fun _ v _ => 11 - (intOf v).toNat)
        case atStart => exact ⟨0, by omega, rfl, rfl, Below.refl _ _⟩
        case round =>
          obtain ⟨k, hk, rfl, rfl, hB⟩ := hrel
          by_cases hlt : k < 10
          · have HS : Hid (bestTo (reachF n true) true s (k + 1) = if (sF s ((k : Int) + 1)).2 = 0 ∧ (sF s ((k : Int) + 1)).1 ≠ s then min (bestTo (reachF n true) true s k) (1 + reachF n true (sF s ((k : Int) + 1)).1) else bestTo (reachF n true) true s k) := Lib.hid rfl
            have hr1 := bestTo_range (reachF n true) (fun s => (HG.out s).1) true s k
            obtain ⟨hr1, hr2⟩ := hr1
            have hr3 := HG.out (sF s ((k : Int) + 1)).1
            obtain ⟨hr3, hr4⟩ := hr3
            by_cases h1 : (sF s ((k : Int) + 1)).2 = 0
            · by_cases h2 : (sF s ((k : Int) + 1)).1 = s
              · have t1 : ((sF s ((k : Int) + 1)).2 == 0) = true := by simp [h1]
                have t2 : ((sF s ((k : Int) + 1)).1 != s) = false := by simp [h2]
                rw [if_neg (fun h => h.2 h2)] at HS
                clear h1 h2
                go_wp2_with (first | (go_at_call 9; refine (send_any _ _ _).mono ?_; rintro e w7 ⟨rfl, hb7⟩) | (go_at_call 11; refine (recv_any _ _ _).mono ?_; rintro e w8 ⟨rfl, hb8⟩) | (go_at_call 18; refine (IH.out true _ _ (by omega)).mono ?_; rintro e w9 ⟨rfl, hb9⟩))
                go_roundw
                case rel => exact ⟨k + 1, by omega, by simp, by rw [HS.out], (by repeat (first | assumption | exact Below.refl _ _ | refine btrans ?_ (by assumption)))⟩
                case measure => simp [intOf]; omega
              · have t1 : ((sF s ((k : Int) + 1)).2 == 0) = true := by simp [h1]
                have t2 : ((sF s ((k : Int) + 1)).1 != s) = true := by simp [h2]
                rw [if_pos ⟨h1, h2⟩] at HS
                clear h1 h2
                go_wp2_with (first | (go_at_call 9; refine (send_any _ _ _).mono ?_; rintro e w7 ⟨rfl, hb7⟩) | (go_at_call 11; refine (recv_any _ _ _).mono ?_; rintro e w8 ⟨rfl, hb8⟩) | (go_at_call 18; refine (IH.out true _ _ (by omega)).mono ?_; rintro e w9 ⟨rfl, hb9⟩))
                go_roundw
                case rel => exact ⟨k + 1, by omega, by simp, by rw [HS.out]; congr 1; rw [Int.min_def]; split <;> split <;> omega, btrans hB (by repeat (first | assumption | exact Below.refl _ _ | refine btrans ?_ (by assumption)))⟩
                case measure => simp [intOf]; omega
            · have t1 : ((sF s ((k : Int) + 1)).2 == 0) = false := by simp [h1]
              rw [if_neg (fun h => h1 h.1)] at HS
              clear h1
              go_wp2_with (first | (go_at_call 9; refine (send_any _ _ _).mono ?_; rintro e w7 ⟨rfl, hb7⟩) | (go_at_call 11; refine (recv_any _ _ _).mono ?_; rintro e w8 ⟨rfl, hb8⟩) | (go_at_call 18; refine (IH.out true _ _ (by omega)).mono ?_; rintro e w9 ⟨rfl, hb9⟩))
              go_roundw
              case rel => exact ⟨k + 1, by omega, by simp, by rw [HS.out], (by repeat (first | assumption | exact Below.refl _ _ | refine btrans ?_ (by assumption)))⟩
              case measure => simp [intOf]; omega
          · obtain rfl : k = 10 := by omega
            go_wp2
            go_ret
            exact ⟨by rw [HR.out]; rfl, hB⟩
    · cases b
      all_goals
        go_enter Try.func18, Try.ntmps18
        go_wp2_with (first | (go_at_call 13; refine (sdone_c _ _ H.out _).mono ?_; rintro e w7 ⟨rfl, rfl⟩) | (go_at_call 15; refine (rdone_c _ _ H.out _).mono ?_; rintro e w7 ⟨rfl, rfl⟩))
        go_ret
        exact ⟨by rw [HR.out]; rfl, Below.refl _ _⟩
end Go.Proofs.Ytapddinlfkdkeaa
