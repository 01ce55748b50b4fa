/- Law 25: KeyPhaseKeys: what holds at a round's head (plain). -/
import Derived.Test.YtieiplalnekmkaaPr
namespace Go.Proofs.Ytieiplalnekmkaa.keyPhaseKeys
open Go.RowKit
def sN (a : ByteArray) : Nat → ByteArray
  | 0 => a
  | i + 1 => nx (sN a i)
theorem sN_size (a : ByteArray) (h : a.size = 16) : ∀ i, (sN a i).size = 16
  | 0 => h
  | _ + 1 => nx_size _
/-- the sender at the head of round i -/
structure IX (a : ByteArray) (i : Nat) (X : Ph) : Prop where
  ss : X.ss = sN a i
  sh : X.sh = (exF a).h
  sg : X.sg = i
  sf : X.sf = -1
  sc : X.sc = false
  rs : X.rs.size = 16
  rg : X.rg = ((i - 1 : Nat) : Int)
  ca : (X.a0 = -1 ∧ X.a1 = -1) ∨ 0 ≤ X.a0
  cb : (X.b0 = -1 ∧ X.b1 = -1) ∨ 0 ≤ X.b0
  b1 : X.b1 ≤ 2 * i
/-- the receiver at the head of round i -/
structure IY (a : ByteArray) (i : Nat) (Y : Ph) : Prop where
  rs : Y.rs = sN a (i - 1)
  rh : Y.rh = (exF a).h
  rg : Y.rg = ((i - 1 : Nat) : Int)
  sg : Y.sg = ((i - 1 : Nat) : Int)
  ss : Y.ss.size = 16
  ok : Y.kept = true → Y.old.size = 16
  no : i = 0 → Y.kept = false
  lg : Y.lg ≤ 2 * i
  ca : (Y.a0 = -1 ∧ Y.a1 = -1) ∨ 0 ≤ Y.a0
  cb : (Y.b0 = -1 ∧ Y.b1 = -1) ∨ 0 ≤ Y.b0
  b1 : Y.b1 ≤ 2 * i
theorem IX.start (a b : ByteArray) (hb : b.size = 16) : IX a 0 (nwP a b) := ⟨rfl, rfl, rfl, rfl, rfl, hb, rfl, .inl ⟨rfl, rfl⟩, .inl ⟨rfl, rfl⟩, show (-1 : Int) ≤ 2 * 0 by decide⟩
theorem IY.start (a b : ByteArray) (hb : b.size = 16) : IY a 0 (nwP b a) := ⟨rfl, rfl, rfl, rfl, hb, (fun h => by cases h), fun _ => rfl, show (-1 : Int) ≤ 2 * 0 by decide, .inl ⟨rfl, rfl⟩, .inl ⟨rfl, rfl⟩, show (-1 : Int) ≤ 2 * 0 by decide⟩
theorem IY.rcv {a : ByteArray} {i : Nat} {Y : Ph} (h : IY a i Y) : rcvV Y ((i : Int) % 2) (2 * (i : Int) + 1) = .tuple #[(kyF (exF a).h (sN a i)).val, .int .i64 i, .int .i64 0] := by
  have hlg := h.lg
  unfold rcvV
  by_cases h0 : i = 0
  · subst h0
    have : Y.rg = 0 := h.rg
    rw [if_pos (by rw [this]; rfl), h.rh, h.rs, this]
    rfl
  · have hrg : Y.rg = (i : Int) - 1 := by rw [h.rg]; omega
    have hs : nx Y.rs = sN a i := by
      rw [h.rs]
      obtain ⟨k, rfl⟩ : ∃ k, i = k + 1 := ⟨i - 1, by omega⟩
      rfl
    rw [if_neg (by omega), if_pos (by omega), h.rh, hs, hrg, show (i : Int) - 1 + 1 = i by omega]
theorem withF_new (p : Int) : withF (-1) (-1) p = (p, p) := rfl
theorem IY.opn {a : ByteArray} {i : Nat} {Y : Ph} (ha : a.size = 16) (h : IY a i Y) : opnR Y i (2 * (i : Int) + 1) = 0 ∧ IY a (i + 1) (opnP Y i i (2 * (i : Int) + 1)) := by
  have hb1 := h.b1
  have hlg := h.lg
  by_cases h0 : i = 0
  · subst h0
    have hrg : Y.rg = 0 := h.rg
    have hsg : Y.sg = 0 := h.sg
    have hst : ((0 : Nat) : Int) - Y.rg = 0 := by rw [hrg]; rfl
    have hk : ¬ (((0 : Nat) : Int) - Y.rg = -1 ∧ Y.kept = false) := fun hh => by rw [hst] at hh; exact absurd hh.1 (by decide)
    have hc : ¬ cfB Y (((0 : Nat) : Int) - Y.rg) (2 * ((0 : Nat) : Int) + 1) = true := by
      rw [hst]; simp [cfB, h.no rfl]
    unfold opnR opnP
    rw [if_neg hk, if_neg hc, if_neg hk, if_neg hc, if_neg (by rw [hst]; decide), if_pos hst]
    refine ⟨rfl, h.rs, h.rh, h.rg, h.sg, h.ss, h.ok, (fun e => by cases e), ?_, h.ca, ?_, ?_⟩
    · show max Y.lg (2 * ((0 : Nat) : Int) + 1) ≤ 2 * ((0 + 1 : Nat) : Int); omega
    · rcases h.cb with ⟨h1, h2⟩ | h1
      · right; show 0 ≤ (withF Y.b0 Y.b1 (2 * ((0 : Nat) : Int) + 1)).1; rw [h1, h2, withF_new]; decide
      · right
        show 0 ≤ (withF Y.b0 Y.b1 (2 * ((0 : Nat) : Int) + 1)).1
        unfold withF; rw [if_neg (by omega)]; show 0 ≤ min Y.b0 _; omega
    · show (withF Y.b0 Y.b1 (2 * ((0 : Nat) : Int) + 1)).2 ≤ 2 * ((0 + 1 : Nat) : Int)
      unfold withF
      split
      · show 2 * ((0 : Nat) : Int) + 1 ≤ _; omega
      · show max Y.b1 (2 * ((0 : Nat) : Int) + 1) ≤ _; omega
  · have hrg : Y.rg = (i : Int) - 1 := by rw [h.rg]; omega
    have hsg : Y.sg = (i : Int) - 1 := by rw [h.sg]; omega
    have hst : (i : Int) - Y.rg = 1 := by omega
    have hk : ¬ ((i : Int) - Y.rg = -1 ∧ Y.kept = false) := fun hh => by rw [hst] at hh; exact absurd hh.1 (by decide)
    have hc : ¬ cfB Y ((i : Int) - Y.rg) (2 * (i : Int) + 1) = true := by
      rw [hst]
      show ¬ decide (2 * (i : Int) + 1 < Y.b1) = true
      simp; omega
    unfold opnR opnP
    rw [if_neg hk, if_neg hc, if_neg hk, if_neg hc, if_neg (by omega), if_neg (by omega), if_pos (by omega)]
    have hs : nx Y.rs = sN a i := by
      rw [h.rs]
      obtain ⟨k, rfl⟩ : ∃ k, i = k + 1 := ⟨i - 1, by omega⟩
      rfl
    refine ⟨rfl, hs, h.rh, ?_, ?_, nx_size _, (fun _ => ?_), (fun e => by cases e), ?_, ?_, .inr ?_, ?_⟩
    · show Y.rg + 1 = ((i + 1 - 1 : Nat) : Int); omega
    · show Y.sg + 1 = ((i + 1 - 1 : Nat) : Int); omega
    · show Y.rs.size = 16; rw [h.rs]; exact sN_size a ha _
    · show max Y.lg (2 * (i : Int) + 1) ≤ 2 * ((i + 1 : Nat) : Int); omega
    · exact h.cb
    · show 0 ≤ 2 * (i : Int) + 1; omega
    · show 2 * (i : Int) + 1 ≤ 2 * ((i + 1 : Nat) : Int); omega
/-- the sender behind Sent and Acked -/
theorem IX.conf {a : ByteArray} {i : Nat} {X : Ph} (h : IX a i X) : ackedP (sentP X (2 * (i : Int))) (2 * (i : Int)) = { X with sf := 2 * (i : Int), sc := true } := by
  have h1 : sentP X (2 * (i : Int)) = { X with sf := 2 * (i : Int) } := by
    unfold sentP; rw [if_pos ⟨by omega, by rw [h.sf]; decide⟩]
  rw [h1]
  unfold ackedP
  rw [if_pos ⟨show 0 ≤ 2 * (i : Int) by omega, show 2 * (i : Int) ≤ 2 * (i : Int) by omega⟩]
theorem IX.opn {a : ByteArray} {i : Nat} {X : Ph} (h : IX a i X) (hi : 0 < i) : opnR { X with sf := 2 * (i : Int), sc := true } i (2 * (i : Int) + 1) = 0 ∧
    opnP { X with sf := 2 * (i : Int), sc := true } i i (2 * (i : Int) + 1) = opX { X with sf := 2 * (i : Int), sc := true } i (2 * (i : Int) + 1) := by
  have hrg : X.rg = (i : Int) - 1 := by rw [h.rg]; omega
  have hsg := h.sg
  have hb1 := h.b1
  obtain ⟨Z, hZ⟩ : ∃ Z : Ph, { X with sf := 2 * (i : Int), sc := true } = Z := ⟨_, rfl⟩
  have zr : Z.rg = (i : Int) - 1 := by rw [← hZ]; exact hrg
  have zs : Z.sg = i := by rw [← hZ]; exact hsg
  have zb : Z.b1 ≤ 2 * i := by rw [← hZ]; exact hb1
  rw [hZ]
  have hst : (i : Int) - Z.rg = 1 := by omega
  have hk : ¬ ((i : Int) - Z.rg = -1 ∧ Z.kept = false) := fun hh => by rw [hst] at hh; exact absurd hh.1 (by decide)
  have hc : ¬ cfB Z ((i : Int) - Z.rg) (2 * (i : Int) + 1) = true := by
    rw [hst]
    show ¬ decide (2 * (i : Int) + 1 < Z.b1) = true
    simp; omega
  unfold opnR opnP
  rw [if_neg hk, if_neg hc, if_neg hk, if_neg hc, if_neg (by omega), if_neg (by omega), if_neg (by omega)]
  exact ⟨rfl, rfl⟩
theorem upd_yes {Z : Ph} (h1 : Z.sc = true) (h2 : Z.sg = Z.rg) : updR Z = 0 ∧ updP Z = { Z with ss := nx Z.ss, sg := Z.sg + 1, sf := -1, sc := false } := by
  have : updB Z = true := by simp [updB, h1, h2]
  unfold updR updP
  rw [if_pos this, if_pos this]
  exact ⟨rfl, rfl⟩
theorem IX.upd0 {a : ByteArray} {X : Ph} (h : IX a 0 X) : updR { X with sf := 2 * ((0 : Nat) : Int), sc := true } = 0 ∧ IX a 1 (updP { X with sf := 2 * ((0 : Nat) : Int), sc := true }) := by
  have hb1 := h.b1
  obtain ⟨u1, u2⟩ := upd_yes (Z := { X with sf := 2 * ((0 : Nat) : Int), sc := true }) rfl (show X.sg = X.rg by rw [h.sg, h.rg])
  refine ⟨u1, ?_⟩
  rw [u2]
  exact ⟨show nx X.ss = _ by rw [h.ss]; rfl, h.sh, show X.sg + 1 = ((1 : Nat) : Int) by rw [h.sg]; rfl, rfl, rfl, h.rs, show X.rg = ((1 - 1 : Nat) : Int) by rw [h.rg], h.ca, h.cb, show X.b1 ≤ 2 * ((1 : Nat) : Int) by omega⟩
theorem IX.upd1 {a : ByteArray} {i : Nat} {X : Ph} (h : IX a i X) (hi : 0 < i) : updR (opX { X with sf := 2 * (i : Int), sc := true } i (2 * (i : Int) + 1)) = 0 ∧ IX a (i + 1) (updP (opX { X with sf := 2 * (i : Int), sc := true } i (2 * (i : Int) + 1))) := by
  have hrg : X.rg = (i : Int) - 1 := by rw [h.rg]; omega
  have hsg := h.sg
  obtain ⟨u1, u2⟩ := upd_yes (Z := opX { X with sf := 2 * (i : Int), sc := true } i (2 * (i : Int) + 1)) rfl (show X.sg = X.rg + 1 by omega)
  refine ⟨u1, ?_⟩
  rw [u2]
  exact ⟨show nx X.ss = _ by rw [h.ss]; rfl, h.sh, show X.sg + 1 = _ by omega, rfl, rfl, nx_size _, show X.rg + 1 = ((i + 1 - 1 : Nat) : Int) by omega, h.cb, .inr (show 0 ≤ 2 * (i : Int) + 1 by omega), show 2 * (i : Int) + 1 ≤ 2 * ((i + 1 : Nat) : Int) by omega⟩
end Go.Proofs.Ytieiplalnekmkaa.keyPhaseKeys
