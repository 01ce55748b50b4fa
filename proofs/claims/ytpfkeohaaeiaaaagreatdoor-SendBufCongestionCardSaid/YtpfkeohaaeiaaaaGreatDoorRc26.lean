/- Texts X T U V Y Rej Sf of this claim, one behind the other. -/
import Derived.Test.YtpfkeohaaeiaaaaGreatDoorRc25
import Derived.OwnWalk
import Derived.Deep.MidRow
import Derived.Great.BuildSlice
import Derived.Deep.WholeRow
namespace Go.Proofs.YtpfkeohaaeiaaaaGreatDoor
open Go.RowKit
set_option maxRecDepth 100000
/-- the whole history of a buffer: all written bytes, their states, the end -/
structure Wh where
  lim : Int
  S : List Int
  T : List Int
  fin : Bool
  ed : Int
namespace Wh
def u (X : Wh) : Nat := lead X.T
def sent (X : Wh) : Nat := first 0 X.T
def buf (X : Wh) : Bf := ⟨X.lim, X.u, X.S.drop X.u, X.T.drop X.u, X.sent, X.fin, X.ed⟩
structure Ok (X : Wh) : Prop where
  l1 : 1 ≤ X.lim
  l2 : X.lim ≤ 8192
  len : X.T.length = X.S.length
  few : X.S.length ≤ 1125899906842624
  cap : (X.S.length : Int) - X.u ≤ X.lim
  mono : ∀ j, X.sent ≤ j → gd X.T j = 0
def space (X : Wh) : Int := if X.fin then 0 else X.lim - (X.S.length - X.u)
def writeN (X : Wh) (s : ByteArray) : Nat := min s.size X.space.toNat
def write (X : Wh) (s : ByteArray) : Wh := { X with S := X.S ++ (bytesOf s).take (X.writeN s), T := X.T ++ List.replicate (X.writeN s) 0 }
def opn (X : Wh) : Bool := X.fin && (decide (X.ed = 0) || decide (X.ed = 2))
def nextP (X : Wh) (most credit : Int) : Option (Nat × Nat) :=
  if most < 0 then none
  else if 0 < most ∧ first 2 X.T < X.T.length then some (first 2 X.T, first 2 X.T + runLen 2 (X.T.drop (first 2 X.T)) most.toNat)
  else if X.sent < X.S.length ∧ 0 < most ∧ 0 < credit then some (X.sent, X.sent + (min ((X.S.length : Int) - X.sent) (min most credit)).toNat)
  else if X.sent = X.S.length ∧ X.opn = true then some (X.sent, X.sent)
  else none
def finT (X : Wh) (t : Nat) : Bool := decide (t = X.S.length) && X.opn
def frame (X : Wh) (f t : Nat) : Wh := { X with T := setTo X.T 1 f (t - f), ed := if X.finT t then 1 else X.ed }
def frameR (X : Wh) (f t : Nat) : Fr := mkFr 8 f (strOfNums ((X.S.drop f).take (t - f))) (X.finT t)
def nextX (X : Wh) : Option (Nat × Nat) → Wh
  | none => X
  | some p => X.frame p.1 p.2
def nextR (X : Wh) : Option (Nat × Nat) → Fr
  | none => fr0
  | some p => X.frameR p.1 p.2
def head (X : Wh) (f : Fr) : Bool := decide (f.ty = 8) && decide (0 ≤ f.off) && decide (f.off ≤ X.sent) && decide ((f.s.size : Int) ≤ X.sent - f.off)
def okAt (X : Wh) (f : Fr) (i : Nat) : Bool := decide (f.off + i < X.u) || decide (gd X.S (f.off + i).toNat = gd (bytesOf f.s) i)
def tail (X : Wh) (f : Fr) : Bool := !f.fin || (X.fin && decide (X.ed ≠ 0) && decide (f.off + f.s.size = X.S.length))
def fits (X : Wh) (f : Fr) : Bool := X.head f && (List.range f.s.size).all (X.okAt f) && X.tail f
def mark (A : Bool) (X : Wh) (f : Fr) : Wh := { X with T := turnTo A X.T f.off.toNat f.s.size, ed := if f.fin then turn A X.ed else X.ed }
def acked (X : Wh) (f : Fr) : Wh := if X.fits f then mark true X f else X
def lost (X : Wh) (f : Fr) : Wh := if X.fits f then mark false X f else X
def err (X : Wh) (f : Fr) : Int := if X.fits f then 0 else 170
end Wh
theorem Wh.u_le (X : Wh) : X.u ≤ X.T.length := lead_le _
theorem Wh.sent_le (X : Wh) : X.sent ≤ X.T.length := first_le _ _
theorem Wh.below_u (X : Wh) {k : Nat} (h : k < X.u) : gd X.T k = 3 := lead_lt _ _ h
theorem Wh.at_u (X : Wh) (h : X.u < X.T.length) : gd X.T X.u ≠ 3 := lead_at _ h
theorem Wh.below_sent (X : Wh) {k : Nat} (h : k < X.sent) : gd X.T k ≠ 0 := first_lt _ _ _ h
theorem Wh.u_sent (X : Wh) : X.u ≤ X.sent := by
  rcases Nat.lt_or_ge X.sent X.u with h | h
  · have h1 := X.below_u h
    have h2 := first_at 0 X.T (Nat.lt_of_lt_of_le h X.u_le)
    have h3 : gd X.T X.sent = 0 := h2
    rw [h3] at h1; cases h1
  · exact h
theorem Wh.mono_of (T : List Int) (m : Nat) (hm : m ≤ T.length) (h1 : ∀ k, k < m → gd T k ≠ 0) (h2 : ∀ k, m ≤ k → gd T k = 0) : first 0 T = m ∧ ∀ j, first 0 T ≤ j → gd T j = 0 := by
  have e := first_is hm h1 (fun _ => h2 m (Nat.le_refl _))
  exact ⟨e, fun j hj => h2 j (by omega)⟩
theorem Wh.Ok.good {X : Wh} (h : X.Ok) : Good X.buf := by
  have h1 := X.u_le; have h2 := X.sent_le; have h3 := X.u_sent; have h4 := h.len; have h5 := h.few; have h6 := h.cap
  refine ⟨h.l1, h.l2, by simp [Wh.buf], by simp only [Wh.buf]; omega, by simp [Wh.buf, h4], by simp [Wh.buf]; omega, by simp only [Wh.buf]; omega, by simp [Wh.buf]; omega⟩
theorem Wh.space_buf {X : Wh} (h : X.Ok) : spaceF X.buf = X.space := by
  have h1 := X.u_le; have h4 := h.len
  unfold spaceF Wh.space
  simp only [Wh.buf, List.length_drop]
  split
  · rfl
  · omega
theorem Wh.writeN_buf {X : Wh} (h : X.Ok) (s : ByteArray) : Go.Proofs.YtpfkeohaaeiaaaaGreatDoor.writeN X.buf s = X.writeN s := by
  unfold Go.Proofs.YtpfkeohaaeiaaaaGreatDoor.writeN Wh.writeN; rw [Wh.space_buf h]
theorem lead_app (T : List Int) (n : Nat) : lead (T ++ List.replicate n 0) = lead T := by
  have hl := lead_le T
  refine lead_is (by simp; omega) (fun k hk => ?_) (fun hk => ?_)
  · rw [gd_append, if_pos (by omega)]; exact lead_lt _ _ hk
  · rw [gd_append]
    split
    · exact lead_at _ ‹_›
    · simp at hk
      rw [gd_replicate _ _ _ (by omega)]; decide
theorem first_app (T : List Int) (n : Nat) : first 0 (T ++ List.replicate n 0) = first 0 T := by
  have hl := first_le 0 T
  refine first_is (by simp; omega) (fun k hk => ?_) (fun hk => ?_)
  · rw [gd_append, if_pos (by omega)]; exact first_lt _ _ _ hk
  · rw [gd_append]
    split
    · exact first_at _ _ ‹_›
    · simp at hk
      rw [gd_replicate _ _ _ (by omega)]
theorem Wh.write_buf {X : Wh} (h : X.Ok) (s : ByteArray) : writeF X.buf s = (X.write s).buf := by
  have h1 := X.u_le; have h4 := h.len
  have e1 : (X.write s).u = X.u := lead_app _ _
  have e2 : (X.write s).sent = X.sent := first_app _ _
  unfold writeF
  rw [Wh.writeN_buf h]
  simp only [Wh.buf, e1, e2, Bf.mk.injEq, true_and]
  refine ⟨rfl, ?_, ?_, rfl, rfl⟩
  · show _ = (X.S ++ _).drop _
    rw [List.drop_append_of_le_length (by omega)]
  · show _ = (X.T ++ _).drop _
    rw [List.drop_append_of_le_length (by omega)]
theorem Wh.writeN_le (X : Wh) (s : ByteArray) : X.writeN s ≤ s.size ∧ ((X.writeN s : Int) ≤ X.space ∨ X.writeN s = 0) := by unfold Wh.writeN; omega
theorem Wh.Ok.write {X : Wh} (h : X.Ok) (s : ByteArray) (hs : X.S.length + X.writeN s ≤ 1125899906842624) : (X.write s).Ok := by
  have h1 := X.u_le; have h4 := h.len; have h6 := h.cap
  have e1 : (X.write s).u = X.u := lead_app _ _
  have e2 : (X.write s).sent = X.sent := first_app _ _
  have hn := X.writeN_le s
  have hS : (X.write s).S.length = X.S.length + X.writeN s := by simp [Wh.write, bytesOf_length]; omega
  refine ⟨h.l1, h.l2, ?_, by omega, ?_, fun j hj => ?_⟩
  · rw [hS]; simp [Wh.write, h4]
  · rw [hS, e1]
    show _ ≤ X.lim
    unfold Wh.space at hn
    split at hn <;> omega
  · rw [e2] at hj
    show gd (X.T ++ _) j = 0
    rw [gd_append]
    split
    · exact h.mono j hj
    · by_cases hk : j - X.T.length < X.writeN s
      · exact gd_replicate _ _ _ hk
      · exact gd_ge (by simp; omega)
theorem Wh.open_buf (X : Wh) : openF X.buf = X.opn := rfl
theorem Wh.first2 {X : Wh} (_ : X.Ok) : first 2 X.T = X.u + first 2 (X.T.drop X.u) := first_drop 2 X.T X.u X.u_le (fun j hj => by rw [X.below_u hj]; decide)
def Wh.shift (X : Wh) (p : Nat × Nat) : Nat × Nat := (p.1 - X.u, p.2 - X.u)
theorem Wh.nextP_buf {X : Wh} (h : X.Ok) (most credit : Int) : Go.Proofs.YtpfkeohaaeiaaaaGreatDoor.nextP X.buf most credit = (X.nextP most credit).map X.shift := by
  have h1 := X.u_le; have h4 := h.len; have h3 := X.u_sent; have h2 := X.sent_le
  have hf := Wh.first2 h
  unfold Go.Proofs.YtpfkeohaaeiaaaaGreatDoor.nextP Wh.nextP
  by_cases hm : most < 0
  · rw [if_pos hm, if_pos hm]; rfl
  · rw [if_neg hm, if_neg hm]
    have hw : writtenF X.buf = X.S.length := by simp [writtenF, Wh.buf]; omega
    have hs : X.buf.sent = X.sent := rfl
    have hb : X.buf.base = X.u := rfl
    have hd : (first 2 (X.T.drop X.u) < (X.T.drop X.u).length) ↔ first 2 X.T < X.T.length := by rw [hf, List.length_drop]; omega
    by_cases h0 : 0 < most ∧ first 2 X.T < X.T.length
    · rw [if_pos h0]
      have e := runF_eq X.buf most (by omega)
      rw [show X.buf.st = X.T.drop X.u from rfl, if_pos (hd.2 h0.2), List.drop_drop, ← hf] at e
      have hr : 1 ≤ runLen 2 (X.T.drop (first 2 X.T)) most.toNat := by
        obtain ⟨m, hm2⟩ : ∃ m, most.toNat = m + 1 := ⟨most.toNat - 1, by omega⟩
        rw [hm2, List.drop_eq_getElem_cons h0.2]
        have := first_at 2 X.T h0.2
        rw [gd_lt h0.2] at this
        rw [this]; simp [runLen]
      rw [e, if_pos ⟨h0.1, by simp only []; omega⟩]
      simp only [Option.map_some, Wh.shift, Option.some.injEq, Prod.mk.injEq]
      omega
    · rw [if_neg h0]
      have e : ¬ (0 < most ∧ (runF X.buf most).1 < (runF X.buf most).2) := by
        rintro ⟨a, b⟩
        have e := runF_eq X.buf most (by omega)
        rw [show X.buf.st = X.T.drop X.u from rfl, if_neg (fun hh => h0 ⟨a, hd.1 hh⟩)] at e
        rw [e] at b; simp at b
      rw [if_neg e, hw, hs, hb]
      by_cases h5 : X.sent < X.S.length ∧ 0 < most ∧ 0 < credit
      · rw [if_pos (by omega), if_pos h5]
        simp only [Option.map_some, Wh.shift, Option.some.injEq, Prod.mk.injEq]
        omega
      · rw [if_neg (by omega), if_neg h5]
        by_cases h6 : X.sent = X.S.length ∧ X.opn = true
        · rw [if_pos ⟨by omega, by rw [Wh.open_buf]; exact h6.2⟩, if_pos h6]
          simp only [Option.map_some, Wh.shift, Option.some.injEq, Prod.mk.injEq]
          omega
        · rw [if_neg (fun hh => h6 ⟨by omega, by rw [Wh.open_buf] at hh; exact hh.2⟩), if_neg h6]; rfl
/-- what can be framed -/
structure Wh.Piece (X : Wh) (f t : Nat) : Prop where
  u : X.u ≤ f
  ft : f ≤ t
  t : t ≤ X.S.length
  sent : f ≤ X.sent
theorem Wh.nextP_piece {X : Wh} (h : X.Ok) {most credit : Int} {p : Nat × Nat} (hp : X.nextP most credit = some p) : X.Piece p.1 p.2 := by
  have h1 := X.u_le; have h4 := h.len; have h3 := X.u_sent; have h2 := X.sent_le
  have hf := Wh.first2 h
  unfold Wh.nextP at hp
  split at hp
  · cases hp
  · split at hp
    · rename_i h0
      cases hp
      have hr := (runLen_le 2 (X.T.drop (first 2 X.T)) most.toNat).2
      simp only [List.length_drop] at hr
      refine ⟨by simp only []; omega, by simp only []; omega, by simp only []; omega, ?_⟩
      simp only []
      rcases Nat.lt_or_ge X.sent (first 2 X.T) with h9 | h9
      · have := first_at 2 X.T h0.2
        rw [h.mono (first 2 X.T) (by omega)] at this
        cases this
      · exact h9
    · split at hp
      · cases hp; exact ⟨h3, by simp only []; omega, by simp only []; omega, Nat.le_refl _⟩
      · split at hp
        · cases hp; exact ⟨h3, Nat.le_refl _, by simp only []; omega, Nat.le_refl _⟩
        · cases hp
theorem Wh.frame_u {X : Wh} (h : X.Ok) {f t : Nat} (hp : X.Piece f t) : (X.frame f t).u = X.u := by
  have h1 := X.u_le; have h4 := h.len
  obtain ⟨a, b, c, d⟩ := hp
  refine lead_is (by simp only [Wh.frame, setTo_length]; exact h1) (fun k hk => ?_) (fun hk => ?_)
  · simp only [Wh.frame]; rw [gd_setTo _ _ _ _ _ (by omega), if_neg (by omega)]; exact X.below_u hk
  · simp only [Wh.frame, setTo_length] at hk ⊢
    rw [gd_setTo _ _ _ _ _ (by omega)]
    split
    · decide
    · exact X.at_u hk
theorem Wh.frame_sent {X : Wh} (h : X.Ok) {f t : Nat} (hp : X.Piece f t) : (X.frame f t).sent = max X.sent t ∧ ∀ j, (X.frame f t).sent ≤ j → gd (X.frame f t).T j = 0 := by
  have h2 := X.sent_le; have h4 := h.len
  obtain ⟨a, b, c, d⟩ := hp
  have := Wh.mono_of (X.frame f t).T (max X.sent t) (by simp only [Wh.frame, setTo_length]; omega) (fun k hk => ?_) (fun k hk => ?_)
  · exact this
  · simp only [Wh.frame]
    rw [gd_setTo _ _ _ _ _ (by omega)]
    split
    · decide
    · exact X.below_sent (by omega)
  · simp only [Wh.frame]
    rw [gd_setTo _ _ _ _ _ (by omega), if_neg (by omega)]
    exact h.mono k (by omega)
theorem Wh.Ok.frame {X : Wh} (h : X.Ok) {f t : Nat} (hp : X.Piece f t) : (X.frame f t).Ok :=
  ⟨h.l1, h.l2, by simp only [Wh.frame, setTo_length]; exact h.len, h.few, by rw [Wh.frame_u h hp]; exact h.cap, (Wh.frame_sent h hp).2⟩
theorem Wh.fin_buf {X : Wh} (h : X.Ok) {f t : Nat} (hp : X.Piece f t) : finF X.buf (t - X.u) = X.finT t := by
  have h1 := X.u_le; have h4 := h.len
  obtain ⟨a, b, c, d⟩ := hp
  unfold finF Wh.finT
  rw [Wh.open_buf]
  congr 1
  simp only [Wh.buf, List.length_drop]
  apply decide_eq_decide.2
  omega
theorem sentUp_eq (B : Bf) (t : Nat) : sentUp B t = max B.sent (B.base + t) := by unfold sentUp; split <;> omega
theorem Wh.frame_buf {X : Wh} (h : X.Ok) {f t : Nat} (hp : X.Piece f t) : frameB X.buf (f - X.u) (t - X.u) = (X.frame f t).buf := by
  have h1 := X.u_le; have h4 := h.len
  have e1 := Wh.frame_u h hp
  have e2 := (Wh.frame_sent h hp).1
  have e3 := Wh.fin_buf h hp
  obtain ⟨a, b, c, d⟩ := hp
  unfold frameB
  rw [e3, sentUp_eq]
  simp only [Wh.buf, e1, e2, Bf.mk.injEq, true_and]
  refine ⟨rfl, rfl, ?_, ?_, rfl, rfl⟩
  · refine ext_gd (by simp [setTo_length, Wh.frame]) (fun j hj => ?_)
    simp only [setTo_length, List.length_drop] at hj
    rw [gd_setTo _ _ _ _ _ (by simp only [List.length_drop]; omega), gd_drop, gd_drop]
    simp only [Wh.frame]
    rw [gd_setTo _ _ _ _ _ (by omega)]
    by_cases e : f ≤ X.u + j ∧ X.u + j < f + (t - f)
    · rw [if_pos e, if_pos (by omega)]
    · rw [if_neg e, if_neg (by omega)]
  · omega
theorem Wh.frameR_buf {X : Wh} (h : X.Ok) {f t : Nat} (hp : X.Piece f t) : Go.Proofs.YtpfkeohaaeiaaaaGreatDoor.frameR X.buf (f - X.u) (t - X.u) = X.frameR f t := by
  have e3 := Wh.fin_buf h hp
  obtain ⟨a, b, c, d⟩ := hp
  unfold Go.Proofs.YtpfkeohaaeiaaaaGreatDoor.frameR Wh.frameR
  rw [e3]
  simp only [Wh.buf, List.drop_drop]
  rw [show X.u + (f - X.u) = f by omega, show t - X.u - (f - X.u) = t - f by omega, show ((X.u : Int) + ((f - X.u : Nat) : Int)) = f by omega]
theorem Wh.Ok.next {X : Wh} (h : X.Ok) (most credit : Int) : (X.nextX (X.nextP most credit)).Ok := by
  cases hp : X.nextP most credit with
  | none => exact h
  | some p => exact h.frame (Wh.nextP_piece h hp)
theorem Wh.nextX_buf {X : Wh} (h : X.Ok) (most credit : Int) : nextB X.buf (Go.Proofs.YtpfkeohaaeiaaaaGreatDoor.nextP X.buf most credit) = (X.nextX (X.nextP most credit)).buf := by
  rw [Wh.nextP_buf h]
  cases hp : X.nextP most credit with
  | none => rfl
  | some p => exact Wh.frame_buf h (Wh.nextP_piece h hp)
theorem Wh.nextR_buf {X : Wh} (h : X.Ok) (most credit : Int) : Go.Proofs.YtpfkeohaaeiaaaaGreatDoor.nextR X.buf (Go.Proofs.YtpfkeohaaeiaaaaGreatDoor.nextP X.buf most credit) = X.nextR (X.nextP most credit) := by
  rw [Wh.nextP_buf h]
  cases hp : X.nextP most credit with
  | none => rfl
  | some p => exact Wh.frameR_buf h (Wh.nextP_piece h hp)
theorem Wh.isSome_buf {X : Wh} (h : X.Ok) (most credit : Int) : (Go.Proofs.YtpfkeohaaeiaaaaGreatDoor.nextP X.buf most credit).isSome = (X.nextP most credit).isSome := by
  rw [Wh.nextP_buf h]; simp
theorem all_range {n : Nat} {p q : Nat → Bool} (h : ∀ i, i < n → p i = q i) : (List.range n).all p = (List.range n).all q := by
  rw [Bool.eq_iff_iff]
  simp only [List.all_eq_true, List.mem_range]
  exact ⟨fun a i hi => (h i hi) ▸ a i hi, fun a i hi => (h i hi).symm ▸ a i hi⟩
theorem Wh.fits_buf {X : Wh} (h : X.Ok) (f : Fr) : fitsF X.buf f = X.fits f := by
  have h1 := X.u_le; have h4 := h.len
  unfold fitsF Wh.fits
  have eh : headF X.buf f = X.head f := rfl
  have et : tailF X.buf f = X.tail f := by
    unfold tailF Wh.tail
    have hw : writtenF X.buf = X.S.length := by simp [writtenF, Wh.buf]; omega
    rw [hw]; rfl
  rw [eh, et]
  by_cases hh : X.head f = true
  · congr 2
    apply all_range
    intro i hi
    unfold Go.Proofs.YtpfkeohaaeiaaaaGreatDoor.okAt Wh.okAt
    have ho : 0 ≤ f.off := by simp [Wh.head] at hh; exact hh.1.1.2
    by_cases h9 : f.off + i < X.u
    · rw [show decide (f.off + (i : Int) < X.u) = true from decide_eq_true h9, show decide (f.off + (i : Int) - X.buf.base < 0) = true from decide_eq_true (show f.off + (i : Int) - (X.u : Int) < 0 by omega)]; rfl
    · rw [show decide (f.off + (i : Int) < X.u) = false from decide_eq_false h9, show decide (f.off + (i : Int) - X.buf.base < 0) = false from decide_eq_false (show ¬ (f.off + (i : Int) - (X.u : Int) < 0) by omega)]
      congr 1
      have e : X.buf.data[(f.off + (i : Int) - X.buf.base).toNat]?.getD 0 = gd X.S (f.off + i).toNat := by
        show gd (X.S.drop X.u) (f.off + (i : Int) - (X.u : Int)).toNat = _
        rw [gd_drop]; congr 1; omega
      rw [e]
  · rw [Bool.not_eq_true] at hh; rw [hh]; rfl
theorem turn_3 (A : Bool) : turn A 3 = 3 := by cases A <;> rfl
theorem turn_ne0 (A : Bool) {x : Int} (h : x ≠ 0) : turn A x ≠ 0 := by
  cases A
  · unfold turn
    by_cases e : x = 1
    · simp [e]
    · simp [e, h]
  · simp [turn]
theorem turn_ne3 {x : Int} (h : x ≠ 3) : turn false x ≠ 3 := by
  unfold turn
  by_cases e : x = 1
  · simp [e]
  · simp [e, h]
structure Wh.Fit (X : Wh) (f : Fr) : Prop where
  off : 0 ≤ f.off
  le : f.off.toNat + f.s.size ≤ X.sent
theorem Wh.fits_fit {X : Wh} {f : Fr} (h : X.fits f = true) : X.Fit f := by
  simp only [Wh.fits, Wh.head, Bool.and_eq_true, decide_eq_true_eq] at h
  exact ⟨h.1.1.1.1.2, by omega⟩
theorem Wh.mark_drop (A : Bool) {X : Wh} (_h : X.Ok) {f : Fr} (hf : X.Fit f) : turnTo A (X.T.drop X.u) (markLo X.buf f) (markHi X.buf f - markLo X.buf f) = (mark A X f).T.drop X.u := by
  have h1 := X.u_le; have h2 := X.sent_le
  obtain ⟨ho, hl⟩ := hf
  have el : markLo X.buf f = (f.off - X.u).toNat := rfl
  have eh : markHi X.buf f = (f.off + f.s.size - X.u).toNat := rfl
  have hb : markHi X.buf f ≤ X.T.length - X.u := by omega
  refine ext_gd (by simp [turnTo_length, Wh.mark]) (fun j hj => ?_)
  simp only [turnTo_length, List.length_drop] at hj
  by_cases hlo : markLo X.buf f ≤ markHi X.buf f
  · rw [gd_turnTo _ _ _ _ _ (by simp only [List.length_drop]; omega), gd_drop, gd_drop]
    simp only [Wh.mark]
    rw [gd_turnTo _ _ _ _ _ (by omega)]
    by_cases e : f.off.toNat ≤ X.u + j ∧ X.u + j < f.off.toNat + f.s.size
    · rw [if_pos e, if_pos (by omega)]
    · rw [if_neg e, if_neg (by omega)]
  · rw [show markHi X.buf f - markLo X.buf f = 0 by omega, turnTo, gd_drop, gd_drop]
    simp only [Wh.mark]
    rw [gd_turnTo _ _ _ _ _ (by omega), if_neg (by omega)]
theorem Wh.mark_below (A : Bool) {X : Wh} {f : Fr} (hf : X.Fit f) {k : Nat} (hk : k < X.u) : gd (mark A X f).T k = 3 := by
  have h2 := X.sent_le
  obtain ⟨ho, hl⟩ := hf
  simp only [Wh.mark]
  rw [gd_turnTo _ _ _ _ _ (by omega), X.below_u hk, turn_3]
  split <;> rfl
theorem Wh.mark_sent (A : Bool) {X : Wh} (h : X.Ok) {f : Fr} (hf : X.Fit f) : (mark A X f).sent = X.sent ∧ ∀ j, (mark A X f).sent ≤ j → gd (mark A X f).T j = 0 := by
  have h2 := X.sent_le
  obtain ⟨ho, hl⟩ := hf
  have := Wh.mono_of (mark A X f).T X.sent (by simp only [Wh.mark, turnTo_length]; omega) (fun k hk => ?_) (fun k hk => ?_)
  · exact this
  · simp only [Wh.mark]
    rw [gd_turnTo _ _ _ _ _ (by omega)]
    have := X.below_sent hk
    split
    · exact turn_ne0 A this
    · exact this
  · simp only [Wh.mark]
    rw [gd_turnTo _ _ _ _ _ (by omega), if_neg (by omega)]
    exact h.mono k hk
theorem Wh.lost_u {X : Wh} {f : Fr} (hf : X.Fit f) : (mark false X f).u = X.u := by
  have h1 := X.u_le; have h2 := X.sent_le
  refine lead_is (by simp only [Wh.mark, turnTo_length]; exact h1) (fun k hk => Wh.mark_below false hf hk) (fun hk => ?_)
  obtain ⟨ho, hl⟩ := hf
  simp only [Wh.mark, turnTo_length] at hk ⊢
  have := X.at_u hk
  rw [gd_turnTo _ _ _ _ _ (by omega)]
  split
  · exact turn_ne3 this
  · exact this
theorem Wh.acked_u {X : Wh} {f : Fr} (hf : X.Fit f) : (mark true X f).u = X.u + lead ((mark true X f).T.drop X.u) := by
  have h1 := X.u_le
  have hT : (mark true X f).T.length = X.T.length := by simp only [Wh.mark, turnTo_length]
  have hl := lead_le ((mark true X f).T.drop X.u)
  simp only [List.length_drop, hT] at hl
  refine lead_is (by omega) (fun k hk => ?_) (fun hk => ?_)
  · by_cases e : k < X.u
    · exact Wh.mark_below true hf e
    · have := lead_lt ((mark true X f).T.drop X.u) (k - X.u) (by omega)
      have e2 : gd ((mark true X f).T.drop X.u) (k - X.u) = 3 := this
      rw [gd_drop, show X.u + (k - X.u) = k by omega] at e2
      exact e2
  · have := lead_at ((mark true X f).T.drop X.u) (by simp only [List.length_drop]; omega)
    have e2 : gd ((mark true X f).T.drop X.u) (lead ((mark true X f).T.drop X.u)) ≠ 3 := this
    rw [gd_drop] at e2
    exact e2
theorem Wh.Ok.mark {X : Wh} (h : X.Ok) (A : Bool) {f : Fr} (hf : X.Fit f) : (Wh.mark A X f).Ok := by
  refine ⟨h.l1, h.l2, by simp only [Wh.mark, turnTo_length]; exact h.len, h.few, ?_, (Wh.mark_sent A h hf).2⟩
  have h6 := h.cap
  cases A
  · rw [Wh.lost_u hf]; exact h6
  · rw [Wh.acked_u hf]; show (X.S.length : Int) - _ ≤ X.lim; omega
theorem Wh.lost_buf {X : Wh} (h : X.Ok) (f : Fr) : lostB X.buf f = (X.lost f).buf := by
  unfold lostB Wh.lost
  rw [Wh.fits_buf h]
  cases hf : X.fits f
  · rfl
  · have hF := Wh.fits_fit hf
    have e1 := Wh.lost_u hF
    have e2 := (Wh.mark_sent false h hF).1
    simp only [if_true]
    unfold markB
    rw [show X.buf.st = X.T.drop X.u from rfl, Wh.mark_drop false h hF]
    simp only [Wh.buf, e1, e2]
    rfl
theorem Wh.acked_buf {X : Wh} (h : X.Ok) (f : Fr) : ackB X.buf f = (X.acked f).buf := by
  unfold ackB Wh.acked
  rw [Wh.fits_buf h]
  cases hf : X.fits f
  · rfl
  · have hF := Wh.fits_fit hf
    have e1 := Wh.acked_u hF
    have e2 := (Wh.mark_sent true h hF).1
    simp only [if_true]
    unfold ackedB markB dropB
    rw [show X.buf.st = X.T.drop X.u from rfl, Wh.mark_drop true h hF]
    simp only [Wh.buf, e1, e2, List.drop_drop, Bf.mk.injEq]
    refine ⟨?_, ?_, ?_, ?_, ?_, ?_, ?_⟩ <;> first | trivial | rfl | omega
theorem Wh.err_buf {X : Wh} (h : X.Ok) (f : Fr) : ackE X.buf f = X.err f := by unfold ackE Wh.err; rw [Wh.fits_buf h]
theorem Wh.Ok.acked {X : Wh} (h : X.Ok) (f : Fr) : (X.acked f).Ok := by
  unfold Wh.acked; split
  · exact h.mark true (Wh.fits_fit ‹_›)
  · exact h
theorem Wh.Ok.lost {X : Wh} (h : X.Ok) (f : Fr) : (X.lost f).Ok := by
  unfold Wh.lost; split
  · exact h.mark false (Wh.fits_fit ‹_›)
  · exact h
/-! the contracts in these words -/
section
variable {W w : World} {b : Nat} {F : Nat → Prop} {fs : List (Nat × Fr)} {X : Wh}
def Wh.done (X : Wh) : Bool := X.fin && decide (X.u = X.S.length) && decide (X.ed = 3)
end
theorem Wh.Ok.finish {X : Wh} (h : X.Ok) : ({ X with fin := true } : Wh).Ok := ⟨h.l1, h.l2, h.len, h.few, h.cap, h.mono⟩
def newX (n : Int) : Wh := ⟨n, [], [], false, 0⟩
theorem newX_ok (n : Int) (h1 : 1 ≤ n) (h2 : n ≤ 8192) : (newX n).Ok := ⟨h1, h2, rfl, by simp [newX], by simp [newX, Wh.u]; omega, fun j _ => rfl⟩
end Go.Proofs.YtpfkeohaaeiaaaaGreatDoor
namespace Go.Proofs.YtpfkeohaaeiaaaaGreatDoor
open Go.RowKit
set_option maxRecDepth 100000
def pickF (c n : Int) : Int := if c < 0 then (-(c+1)) % n else c % n
theorem pickF_range (c n : Int) (h : 1 ≤ n) : 0 ≤ pickF c n ∧ pickF c n < n := by
  unfold pickF; split
  · exact ⟨Int.emod_nonneg _ (by omega), Int.emod_lt_of_pos _ (by omega)⟩
  · exact ⟨Int.emod_nonneg _ (by omega), Int.emod_lt_of_pos _ (by omega)⟩
theorem pick_any (c n : Int) (w : World) (hc : -9223372036854775808 ≤ c) (hc' : c ≤ 9223372036854775807) (hn : 1 ≤ n) (hn2 : n ≤ 1152921504606846976) :
    Calls Tryz.prog 7 #[.int .i64 c, .int .i64 n] w fun e w' => e = .returned (.int .i64 (pickF c n)) ∧ w = w' := by
  by_cases h : c < 0
  · have e : pickF c n = -((c+1).tmod n) := by
      unfold pickF; rw [if_pos h, ← Int.neg_tmod, Int.tmod_eq_emod_of_nonneg (by omega)]
    have H := Lib.hid e
    clear e
    go_enter Tryz.func7, Tryz.ntmps7
    go_wp2
    go_ret
    exact ⟨by rw [H.out]; rfl, rfl⟩
  · have e : pickF c n = c % n := by unfold pickF; rw [if_neg h]
    have H := Lib.hid e
    clear e
    go_enter Tryz.func7, Tryz.ntmps7
    go_wp2
    go_ret
    exact ⟨by rw [H.out]; rfl, rfl⟩
end Go.Proofs.YtpfkeohaaeiaaaaGreatDoor
namespace Go.Proofs.YtpfkeohaaeiaaaaGreatDoor
open Go.RowKit
set_option maxRecDepth 100000
/-- a byte of an own row is set -/
theorem own_set {w : World} {e : TypeId} {g n cap : Nat} {xs : List Int} (h : w.ownsRow 0 e 1 (.slice (some ⟨g, 0, none⟩) n cap) n (xs.map (.int .u8))) (k : Nat) (v : Int) :
    (w.setCell ⟨g, k, none⟩ (.int .u8 v)).ownsRow 0 e 1 (.slice (some ⟨g, 0, none⟩) n cap) n ((xs.set k v).map (.int .u8)) := by
  obtain ⟨hl, h⟩ := h
  rcases h with ⟨e, _⟩ | ⟨g', cap', cur, e, h2, h3, h4, h5, h6, h7⟩
  · cases e
  · simp only [Value.slice.injEq, Option.some.injEq, Addr.mk.injEq] at e
    obtain ⟨⟨rfl, _, _⟩, _, rfl⟩ := e
    refine ⟨by simpa using hl, .inr ⟨g, cap, cur.setIfInBounds k (.int .u8 v), rfl, h2, heap_set _ h3, h4, h5, by simpa using h6, ?_⟩⟩
    rw [Array.toList_setIfInBounds, List.take_set, h7, List.map_set]
/-- the law's stream: its byte at j, and its first k bytes in a row of n -/
def streamAt (j : Nat) : Int := 97 + ((j * 7 + j / 26 * 3) % 26 : Nat)
def streamRow (n k : Nat) : List Int := (List.range n).map (fun j => if j < k then streamAt j else 0)
theorem streamRow_length (n k : Nat) : (streamRow n k).length = n := by simp [streamRow]
theorem streamRow_succ (n k : Nat) (h : k < n) : (streamRow n k).set k (streamAt k) = streamRow n (k + 1) := by
  apply List.ext_getElem?
  intro j
  rw [List.getElem?_set]
  simp only [streamRow, List.length_map, List.length_range, List.getElem?_map]
  by_cases hj : j < n
  · rw [List.getElem?_range hj]
    by_cases e : k = j
    · subst e; simp [h]
    · rw [if_neg e]; simp only [Option.map_some]; congr 1
      by_cases h1 : j < k
      · rw [if_pos h1, if_pos (by omega)]
      · rw [if_neg h1, if_neg (by omega)]
  · rw [List.getElem?_eq_none (by simp; omega)]; simp; omega
theorem streamRow_zero (n : Nat) : (streamRow n 0).map (Value.int .u8) = List.replicate n (.int .u8 0) := by
  rw [streamRow, List.map_map]
  apply List.ext_getElem?
  intro j
  simp [List.getElem?_replicate]
  by_cases h : j < n
  · simp [h]
  · simp [h]
end Go.Proofs.YtpfkeohaaeiaaaaGreatDoor
namespace Go.Proofs.YtpfkeohaaeiaaaaGreatDoor
open Go.RowKit
set_option maxRecDepth 100000
theorem madeCells_u8 (n : Nat) : (madeCells (Value.int .u8 0).cells (n * 1)).toList = (streamRow n 0).map (Value.int .u8) := by
  rw [streamRow_zero]
  simp only [madeCells, Value.cells, Nat.mul_one]
  apply List.ext_getElem?
  intro j
  by_cases h : j < n
  · simp [h, Nat.mod_one]
  · simp [h]
theorem below_setOwn {w wr : World} (h : Below w.heap.size w wr) (k : Nat) (v : Value) : Below w.heap.size w (wr.setCell ⟨w.heap.size, k, none⟩ v) := h.setCell (Nat.le_refl _) _
set_option maxHeartbeats 2000000 in
theorem stream_any (n : Nat) (w : World) (hn : n ≤ 1000) :
    Calls Tryz.prog 6 #[.int .i64 n] w fun e w' => e = .returned (.string (strOfNums (streamRow n n))) ∧ Below w.heap.size w w' := by
  obtain ⟨i5, p1, p2, p3, p4⟩ := facts5
  have P1 := Lib.hid p1; have P2 := Lib.hid p2; have P3 := Lib.hid p3; have P4 := Lib.hid p4
  clear p1 p2 p3 p4
  go_enter Tryz.func6, Tryz.ntmps6
  go_wp2_with (refine wpList_make_full w rfl (.tmp 5) (.tmp 5) 60 rfl 0 5 i5 _ 1 Tryz.underlying60 P1.out P2.out P3.out .i64 .i64 _ _ n rfl rfl rfl rfl (by rw [P4.out]; omega) (by unfold maxLen; omega) (Nat.zero_le _) ?_; intro w1 ho hg)
  have HO : Hid (w1.ownsRow 0 5 1 (.slice (some ⟨w.heap.size, 0, none⟩) n n) n ((streamRow n 0).map (.int .u8))) := Lib.hid (by rw [← madeCells_u8]; exact ho)
  have HB : Hid (Below w.heap.size w w1) := Lib.hid ⟨hg.os, hg.tape, hg.output, hg.size, fun k hk => hg.block k hk (by simp)⟩
  clear ho hg
  go_loopw [4] (fun i wr => ∃ k : Nat, k ≤ n ∧ i = .int .i64 k ∧ Hid (wr.ownsRow 0 5 1 (.slice (some ⟨w.heap.size, 0, none⟩) n n) n ((streamRow n k).map (.int .u8))) ∧ Hid (Below w.heap.size w wr)) (fun i _ => n - (intOf i).toNat)
  case atStart => exact ⟨0, Nat.zero_le _, rfl, HO, HB⟩
  case round =>
    obtain ⟨k, hk, rfl, HO, HB⟩ := hrel
    by_cases hlt : k < n
    · have hc : wr.cell? ⟨w.heap.size, k, none⟩ = some (.int .u8 ((streamRow n k)[k]?.getD 0)) ∧ wr.frozen? ⟨w.heap.size, k, none⟩ = false := by
        obtain ⟨g, cap, e, _, _, h1, h2⟩ := own_cells HO.out (by omega)
        simp only [Value.slice.injEq, Option.some.injEq, Addr.mk.injEq] at e
        obtain ⟨⟨rfl, _, _⟩, _, rfl⟩ := e
        exact ⟨h1 k hlt, h2 k⟩
      obtain ⟨hc1, hc2⟩ := hc
      generalize (streamRow n k)[k]?.getD 0 = x at hc1
      have HN : Hid (((wr.setCell ⟨w.heap.size, k, none⟩ (.int .u8 (streamAt k)))).ownsRow 0 5 1 (.slice (some ⟨w.heap.size, 0, none⟩) n n) n ((streamRow n (k+1)).map (.int .u8))) := Lib.hid (by rw [← streamRow_succ n k hlt]; exact own_set HO.out k _)
      have HB2 := Lib.hid (below_setOwn HB.out k (.int .u8 (streamAt k)))
      clear HO HB
      have e0 : IntKind.u8.wrap (97 + ((k : Int) * 7 + (k : Int) / 26 * 3) % 26) = streamAt k := by
        rw [show streamAt k = 97 + ((k : Int) * 7 + (k : Int) / 26 * 3) % 26 from by unfold streamAt; push_cast; rfl]
        have := Int.emod_nonneg ((k : Int) * 7 + (k : Int) / 26 * 3) (show (26 : Int) ≠ 0 by decide)
        have := Int.emod_lt_of_pos ((k : Int) * 7 + (k : Int) / 26 * 3) (show (0 : Int) < 26 by decide)
        exact IntWalk.u8_in _ (by omega)
    
      go_wp2
      go_roundw
      case rel => exact ⟨k + 1, by omega, by go_num, HN, HB2⟩
      case measure => simp [intOf]; omega
    · have : k = n := by omega
      subst this
      have hcv : ∀ dst, Tryz.prog.underlying dst = some .string → (convert 60 dst (.slice (some ⟨w.heap.size, 0, none⟩) k k)).run Tryz.prog wr = .ok (.string (strOfNums (streamRow k k))) wr := by
        rcases Nat.eq_zero_or_pos k with h0 | h0
        · subst h0
          exact run_convert_bytes_arg wr 60 5 Tryz.underlying60 Tryz.underlying5 w.heap.size 0 0 0 [] rfl (fun i hi => by omega)
        · obtain ⟨g, cap, e, _, _, h1, h2⟩ := own_cells HO.out h0
          simp only [Value.slice.injEq, Option.some.injEq, Addr.mk.injEq] at e
          obtain ⟨⟨rfl, _, _⟩, _, rfl⟩ := e
          exact run_convert_bytes_arg wr 60 5 Tryz.underlying60 Tryz.underlying5 w.heap.size 0 k k (streamRow k k) (streamRow_length _ _) (fun i hi => by rw [Nat.zero_add, h1 i hi, List.getD_eq_getElem?_getD])
      have HB3 := HB
      clear HO HB
      have hcv9 := hcv 9 Tryz.underlying9
      go_wp2
      go_ret
      exact ⟨rfl, HB3.out⟩
end Go.Proofs.YtpfkeohaaeiaaaaGreatDoor
namespace Go.Proofs.YtpfkeohaaeiaaaaGreatDoor
open Go.RowKit
set_option maxRecDepth 100000
/-! a stream is written into a new buffer and sent in order -/
theorem bytes_str (xs : List Int) (h : ∀ x ∈ xs, 0 ≤ x ∧ x ≤ 255) : bytesOf (strOfNums xs) = xs := by
  unfold bytesOf
  rw [strOfNums_data, List.map_map]
  have : ∀ x ∈ xs, ((fun b : UInt8 => (b.toNat : Int)) ∘ fun n : Int => UInt8.ofNat n.toNat) x = x := by
    intro x hx
    have := h x hx
    simp only [Function.comp, UInt8.toNat_ofNat']
    omega
  rw [List.map_congr_left this, List.map_id']
theorem streamAt_byte (j : Nat) : 0 ≤ streamAt j ∧ streamAt j ≤ 255 := by unfold streamAt; omega
theorem streamRow_byte (n k : Nat) : ∀ x ∈ streamRow n k, 0 ≤ x ∧ x ≤ 255 := by
  intro x hx
  simp only [streamRow, List.mem_map] at hx
  obtain ⟨j, _, rfl⟩ := hx
  split
  · exact streamAt_byte j
  · omega
theorem stream_bytes (n : Nat) : bytesOf (strOfNums (streamRow n n)) = streamRow n n := bytes_str _ (streamRow_byte n n)
theorem first_none {x : Int} {l : List Int} (h : ∀ k, k < l.length → gd l k ≠ x) : first x l = l.length := first_is (Nat.le_refl _) h (fun h => absurd h (Nat.lt_irrefl _))
section
variable {lim N s : Nat}
end
end Go.Proofs.YtpfkeohaaeiaaaaGreatDoor
namespace Go.Proofs.YtpfkeohaaeiaaaaGreatDoor
open Go.RowKit
set_option maxRecDepth 100000
theorem St.other {W w w' : World} {b g : Nat} {F : Nat → Prop} {B : Bf} {fs : List (Nat × Fr)} (h : St W w b F B fs) (hg : w.grownBy w' (some g)) (hn : ¬ F g) (hW : W.heap.size ≤ g) (hf : ∀ p ∈ fs, p.1 ≠ g) : St W w' b F B fs := by
  have hc : Chg (fun k => k = g) w w' := Chg.grown hg rfl
  exact ⟨h.inv.chg hc (fun k hk e => hn (e ▸ hk)), fun k hk => ⟨(h.own k hk).1, Nat.lt_of_lt_of_le (h.own k hk).2 hg.size⟩, hc.toBelow h.below (fun k e => e ▸ hW), fun p hp => ⟨hc.heap (h.far p hp).1 (hf p hp), (h.far p hp).2⟩⟩
theorem St.add {W w : World} {b g : Nat} {F : Nat → Prop} {B : Bf} {fs : List (Nat × Fr)} (h : St W w b F B fs) (f : Fr) (hg : w.heap[g]? = some (.cells f.cells 56 (0, 0))) (hn : ¬ F g) : St W w b F B ((g, f) :: fs) :=
  ⟨h.inv, h.own, h.below, fun p hp => by rcases List.mem_cons.1 hp with rfl | hp; exact ⟨hg, hn⟩; exact h.far p hp⟩
section
variable {m : Nat}
end
end Go.Proofs.YtpfkeohaaeiaaaaGreatDoor
namespace Go.Proofs.YtpfkeohaaeiaaaaGreatDoor
open Go.RowKit
set_option maxRecDepth 100000
/-! frames in a row of the call's own -/
def frO (f : Fr) : Obj := .cells f.cells 56 (0, 0)
def fsCells : List Fr → List Value
  | [] => []
  | f :: l => f.cells.toList ++ fsCells l
theorem cells13 (f : Fr) : f.cells.toList.length = 13 := rfl
theorem fsCells_snoc (l : List Fr) (f : Fr) : fsCells (l ++ [f]) = fsCells l ++ f.cells.toList := by
  induction l with
  | nil => simp [fsCells]
  | cons g l ih => simp only [List.cons_append, fsCells, ih, List.append_assoc]
theorem fsCells_get : ∀ (l : List Fr) (k : Nat) (f : Fr), l[k]? = some f → ∀ j v, f.cells.toList[j]? = some v → (fsCells l)[k * 13 + j]? = some v := by
  intro l
  induction l with
  | nil => intro k f h; simp at h
  | cons g l ih =>
    intro k f h j v hv
    cases k with
    | zero =>
      simp at h; subst h
      simp only [fsCells, Nat.zero_mul, Nat.zero_add]
      rw [List.getElem?_append_left ((List.getElem?_eq_some_iff.1 hv).1)]
      exact hv
    | succ k =>
      simp at h
      simp only [fsCells]
      rw [List.getElem?_append_right (by rw [cells13]; omega), cells13, show (k + 1) * 13 + j - 13 = k * 13 + j by omega]
      exact ih k f h j v hv
/-- a buffer of the call's own, blocks beside it, and a row of frames beside them -/
structure Sf (W w : World) (b : Nat) (F : Nat → Prop) (X : Wh) (os : List (Nat × Obj)) (v : Value) (l : List Fr) : Prop where
  inv : Inv w b F X.buf
  ok : X.Ok
  own : ∀ k, F k → W.heap.size ≤ k ∧ k < w.heap.size
  below : Below W.heap.size W w
  far : ∀ p ∈ os, w.heap[p.1]? = some p.2 ∧ ¬ F p.1 ∧ W.heap.size ≤ p.1
  row : w.ownsRow W.heap.size 56 13 v l.length (fsCells l)
  apart : ∀ k, v.ownBlock = some k → ¬ F k ∧ ∀ p ∈ os, p.1 ≠ k
theorem own_base' {w : World} {base : Nat} {e : TypeId} {size : Nat} {v : Value} {n : Nat} {xs : List Value} (h : w.ownsRow base e size v n xs) : ∀ k, v.ownBlock = some k → base ≤ k ∧ k < w.heap.size := by
  intro k hk
  refine ⟨?_, own_lt' h k hk⟩
  rcases h.2 with ⟨rfl, _⟩ | ⟨g, cap, cur, rfl, hb, hg, _⟩
  · cases hk
  · have : g = k := by simpa [Value.ownBlock] using hk
    subst this; exact hb
where
  own_lt' {w : World} {base : Nat} {e : TypeId} {size : Nat} {v : Value} {n : Nat} {xs : List Value} (h : w.ownsRow base e size v n xs) : ∀ k, v.ownBlock = some k → k < w.heap.size := by
    intro k hk
    rcases h.2 with ⟨rfl, _⟩ | ⟨g, cap, cur, rfl, hb, hg, _⟩
    · cases hk
    · have : g = k := by simpa [Value.ownBlock] using hk
      subst this; exact heap_lt hg
theorem own_same' {w w' : World} {base : Nat} {e : TypeId} {size : Nat} {v : Value} {n : Nat} {xs : List Value} (h : w.ownsRow base e size v n xs) (hs : ∀ k, v.ownBlock = some k → w'.heap[k]? = w.heap[k]?) : w'.ownsRow base e size v n xs := own_same h hs
section
variable {W w w' : World} {b : Nat} {F : Nat → Prop} {X X' : Wh} {os : List (Nat × Obj)} {v : Value} {l : List Fr}
theorem Sf.step (h : Sf W w b F X os v l) (hc : Chg F w w') (hi : Inv w' b (Ext F w w') X'.buf) (ho : X'.Ok) : Sf W w' b (Ext F w w') X' os v l := by
  have hs := hc.size
  have hbs := h.below.size
  refine ⟨hi, ho, fun k hk => ?_, hc.toBelow h.below (fun k hk => (h.own k hk).1), fun p hp => ⟨hc.heap (h.far p hp).1 (h.far p hp).2.1, fun hk => ?_, (h.far p hp).2.2⟩, own_same' h.row (fun k hk => hc.block k (own_base' h.row k hk).2 (h.apart k hk).1), fun k hk => ⟨fun e => ?_, (h.apart k hk).2⟩⟩
  · rcases hk with hk | hk
    · have := h.own k hk; exact ⟨this.1, by omega⟩
    · exact ⟨by omega, hk.2⟩
  · rcases hk with hk | hk
    · exact (h.far p hp).2.1 hk
    · exact Nat.not_le.2 (heap_lt (h.far p hp).1) hk.1
  · rcases e with e | e
    · exact (h.apart k hk).1 e
    · exact Nat.not_le.2 (own_base' h.row k hk).2 e.1
theorem Sf.same (h : Sf W w b F X os v l) (hb : Below w.heap.size w w') : Sf W w' b F X os v l :=
  ⟨h.inv.below hb, h.ok, fun k hk => ⟨(h.own k hk).1, Nat.lt_of_lt_of_le (h.own k hk).2 hb.size⟩, h.below.trans (hb.mono h.below.size), fun p hp => ⟨heap_below hb (h.far p hp).1, (h.far p hp).2⟩, own_same' h.row (fun k hk => hb.block k (own_base' h.row k hk).2), h.apart⟩
theorem Sf.drewN (h : Sf W w b F X os v l) (n : Nat) : Sf W (w.drewN n) b F X os v l := h.same (belowN (Below.refl _ w) n)
theorem Sf.alloc (h : Sf W w b F X os v l) (o : Obj) : Sf W (w.alloc o) b F X ((w.heap.size, o) :: os) v l := by
  have h1 := h.same (show Below w.heap.size w (w.alloc o) from (Below.refl _ w).alloc (Nat.le_refl _) _)
  refine ⟨h1.inv, h1.ok, h1.own, h1.below, fun p hp => ?_, h1.row, fun k hk => ⟨(h.apart k hk).1, fun p hp => ?_⟩⟩
  · rcases List.mem_cons.1 hp with rfl | hp
    · exact ⟨heap_alloc_new w _, fun hk => Nat.lt_irrefl _ (h.own _ hk).2, h.below.size⟩
    · exact h1.far p hp
  · rcases List.mem_cons.1 hp with rfl | hp
    · exact fun e => Nat.lt_irrefl _ (e ▸ (own_base' h.row k hk).2)
    · exact (h.apart k hk).2 p hp
theorem Sf.frame (h : Sf W w b F X os v l) (f : Fr) : Sf W (w.alloc (.cells f.cells 56)) b F X ((w.heap.size, frO f) :: os) v l := h.alloc _
theorem Sf.sub (h : Sf W w b F X os v l) {os' : List (Nat × Obj)} (hs : ∀ p ∈ os', p ∈ os) : Sf W w b F X os' v l :=
  ⟨h.inv, h.ok, h.own, h.below, fun p hp => h.far p (hs p hp), h.row, fun k hk => ⟨(h.apart k hk).1, fun p hp => (h.apart k hk).2 p (hs p hp)⟩⟩
/-- a block beside the buffer turns -/
theorem Sf.turn {g : Nat} {o o' : Obj} (h : Sf W w b F X ((g, o) :: os) v l) (hg : w.grownBy w' (some g)) (ho : w'.heap[g]? = some o') (hne : ∀ p ∈ os, p.1 ≠ g) : Sf W w' b F X ((g, o') :: os) v l := by
  have hq := h.far (g, o) (List.mem_cons_self ..)
  have hc : Chg (fun k => k = g) w w' := Chg.grown hg rfl
  refine ⟨h.inv.chg hc (fun k hk e => hq.2.1 (e ▸ hk)), h.ok, fun k hk => ⟨(h.own k hk).1, Nat.lt_of_lt_of_le (h.own k hk).2 hg.size⟩, hc.toBelow h.below (fun k e => e ▸ hq.2.2), fun p hp => ?_, own_same' h.row (fun k hk => hc.block k (own_base' h.row k hk).2 (fun e => (h.apart k hk).2 _ (List.mem_cons_self ..) e.symm)), fun k hk => ⟨(h.apart k hk).1, fun p hp => ?_⟩⟩
  · rcases List.mem_cons.1 hp with rfl | hp
    · exact ⟨ho, hq.2⟩
    · exact ⟨hc.heap (h.far p (List.mem_cons_of_mem _ hp)).1 (hne p hp), (h.far p (List.mem_cons_of_mem _ hp)).2⟩
  · rcases List.mem_cons.1 hp with rfl | hp
    · exact (h.apart k hk).2 (g, o) (List.mem_cons_self ..)
    · exact (h.apart k hk).2 p (List.mem_cons_of_mem _ hp)
/-- a frame is appended to the row -/
theorem Sf.append {v' : Value} (h : Sf W w b F X os v l) (f : Fr) (ho : w'.ownsRow W.heap.size 56 13 v' (l.length + 1) (fsCells l ++ f.cells.toList)) (hg : w.grownBy w' v.ownBlock) (hk : ∀ k, v'.ownBlock = some k → v.ownBlock = some k ∨ w.heap.size ≤ k) : Sf W w' b F X os v' (l ++ [f]) := by
  have hc : Chg (fun k => v.ownBlock = some k) w w' := Chg.grownO hg (fun k e => e)
  refine ⟨h.inv.chg hc (fun k hk e => (h.apart k e).1 hk), h.ok, fun k hk => ⟨(h.own k hk).1, Nat.lt_of_lt_of_le (h.own k hk).2 hg.size⟩, hc.toBelow h.below (fun k e => (own_base' h.row k e).1), fun p hp => ⟨hc.heap (h.far p hp).1 (fun e => (h.apart _ e).2 p hp rfl), (h.far p hp).2⟩, ?_, fun k e => ?_⟩
  · rw [fsCells_snoc, List.length_append]; exact ho
  · rcases hk k e with e2 | e2
    · exact h.apart k e2
    · exact ⟨fun hf => Nat.not_le.2 (h.own k hf).2 e2, fun p hp e3 => Nat.not_le.2 (heap_lt (h.far p hp).1) (e3 ▸ e2)⟩
theorem Sf.elem (h : Sf W w b F X os v l) {k : Nat} {f : Fr} (hk : l[k]? = some f) : ∃ g cap, v = .slice (some ⟨g, 0, none⟩) l.length cap ∧ l.length ≤ cap ∧ w.rangeAt g (k * 13) f.cells.toList := by
  have hkl : k < l.length := (List.getElem?_eq_some_iff.1 hk).1
  rcases h.row.2 with ⟨rfl, e⟩ | ⟨g, cap, cur, rfl, hb, hg, hn, hc, hs, ht⟩
  · omega
  · refine ⟨g, cap, rfl, hn, fun j u hu => ?_⟩
    have := h.row.cells (g := g) rfl (k * 13 + j) u (fsCells_get l k f hk j u hu)
    rw [add_plain, Nat.zero_add] at this
    exact this
theorem Sf.form (h : Sf W w b F X os v l) : ∃ a cap, v = .slice a l.length cap ∧ l.length ≤ cap := own_form h.row
theorem Sf.fr {g : Nat} {f : Fr} (h : Sf W w b F X os v l) (hm : (g, frO f) ∈ os) : w.heap[g]? = some (.cells f.cells 56 (0, 0)) := (h.far _ hm).1
/-! the contracts -/
end
/-- the same of a frame variable of the call's own -/
theorem wpList_load_own {ops : Array Oper} {rest : List Oper} {o : Oper} {a : Act} {w : World} {Q : Exit → Act → World → Prop} (hgd : o.guard = none) (x : Operand) (ho : o.op = .load 56 x) (f : Fr)
    (g : Nat) (hx : a.eval x = .pointer (some ⟨g, 0, none⟩)) (hg : w.heap[g]? = some (.cells f.cells 56 (0, 0)))
    (h : wpList Tryz.prog ops Q rest (a.put o.dst (.agg f.cells)) w) : wpList Tryz.prog ops Q (o :: rest) a w :=
  wpList_load_row hgd 56 x ho g hx 56 f.cells (0, 0) _ hg Tryz.underlying56 rfl (size56 f) h
/-- 'f, _ := ..' of the call's own: the variable made and set -/
theorem wpList_store_new {ops : Array Oper} {rest : List Oper} {o : Oper} {a : Act} {w : World} {Q : Exit → Act → World → Prop} (hgd : o.guard = none) (x y : Operand) (ho : o.op = .store 56 x y) (f : Fr) (h1 : f.cells.all (·.oneCell') = true)
    (cs : Array Value) (hcs : cs.size = 13) (hx : a.eval x = .pointer (some ⟨w.heap.size, 0, none⟩)) (hy : a.eval y = .agg f.cells)
    (h : wpList Tryz.prog ops Q rest (a.put o.dst undef) (w.alloc (.cells f.cells 56))) : wpList Tryz.prog ops Q (o :: rest) a (w.alloc (.cells cs 56)) :=
  wpList_store_row hgd 56 x y ho w.heap.size f.cells hx hy 56 cs (heap_alloc_new _ _) (size56 f) hcs h1 (by rw [World.setRow_alloc_new]; exact h)
end Go.Proofs.YtpfkeohaaeiaaaaGreatDoor
