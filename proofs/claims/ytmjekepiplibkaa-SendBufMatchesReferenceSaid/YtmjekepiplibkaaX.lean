import Derived.Test.YtmjekepiplibkaaW
namespace Go.Proofs.Ytmjekepiplibkaa
open Go.RowKit
/-- the whole history of a buffer: all written bytes, their states, the end -/
structure Wh where
  lim : Int
  S : List Int
  T : List Int
  fin : Bool
  ed : Int
namespace Wh
def u (X : Wh) : Nat := lead X.T
def sent (X : Wh) : Nat := first 0 X.T
def buf (X : Wh) : Bf := ⟨X.lim, X.u, X.S.drop X.u, X.T.drop X.u, X.sent, X.fin, X.ed⟩
structure Ok (X : Wh) : Prop where
  l1 : 1 ≤ X.lim
  l2 : X.lim ≤ 8192
  len : X.T.length = X.S.length
  few : X.S.length ≤ 1125899906842624
  cap : (X.S.length : Int) - X.u ≤ X.lim
  mono : ∀ j, X.sent ≤ j → gd X.T j = 0
def space (X : Wh) : Int := if X.fin then 0 else X.lim - (X.S.length - X.u)
def writeN (X : Wh) (s : ByteArray) : Nat := min s.size X.space.toNat
def write (X : Wh) (s : ByteArray) : Wh := { X with S := X.S ++ (bytesOf s).take (X.writeN s), T := X.T ++ List.replicate (X.writeN s) 0 }
def opn (X : Wh) : Bool := X.fin && (decide (X.ed = 0) || decide (X.ed = 2))
def nextP (X : Wh) (most credit : Int) : Option (Nat × Nat) :=
  if most < 0 then none
  else if 0 < most ∧ first 2 X.T < X.T.length then some (first 2 X.T, first 2 X.T + runLen 2 (X.T.drop (first 2 X.T)) most.toNat)
  else if X.sent < X.S.length ∧ 0 < most ∧ 0 < credit then some (X.sent, X.sent + (min ((X.S.length : Int) - X.sent) (min most credit)).toNat)
  else if X.sent = X.S.length ∧ X.opn = true then some (X.sent, X.sent)
  else none
def finT (X : Wh) (t : Nat) : Bool := decide (t = X.S.length) && X.opn
def frame (X : Wh) (f t : Nat) : Wh := { X with T := setTo X.T 1 f (t - f), ed := if X.finT t then 1 else X.ed }
def frameR (X : Wh) (f t : Nat) : Fr := mkFr 8 f (strOfNums ((X.S.drop f).take (t - f))) (X.finT t)
def nextX (X : Wh) : Option (Nat × Nat) → Wh
  | none => X
  | some p => X.frame p.1 p.2
def nextR (X : Wh) : Option (Nat × Nat) → Fr
  | none => fr0
  | some p => X.frameR p.1 p.2
def head (X : Wh) (f : Fr) : Bool := decide (f.ty = 8) && decide (0 ≤ f.off) && decide (f.off ≤ X.sent) && decide ((f.s.size : Int) ≤ X.sent - f.off)
def okAt (X : Wh) (f : Fr) (i : Nat) : Bool := decide (f.off + i < X.u) || decide (gd X.S (f.off + i).toNat = gd (bytesOf f.s) i)
def tail (X : Wh) (f : Fr) : Bool := !f.fin || (X.fin && decide (X.ed ≠ 0) && decide (f.off + f.s.size = X.S.length))
def fits (X : Wh) (f : Fr) : Bool := X.head f && (List.range f.s.size).all (X.okAt f) && X.tail f
def mark (A : Bool) (X : Wh) (f : Fr) : Wh := { X with T := turnTo A X.T f.off.toNat f.s.size, ed := if f.fin then turn A X.ed else X.ed }
def acked (X : Wh) (f : Fr) : Wh := if X.fits f then mark true X f else X
def lost (X : Wh) (f : Fr) : Wh := if X.fits f then mark false X f else X
def err (X : Wh) (f : Fr) : Int := if X.fits f then 0 else 170
end Wh
theorem Wh.u_le (X : Wh) : X.u ≤ X.T.length := lead_le _
theorem Wh.sent_le (X : Wh) : X.sent ≤ X.T.length := first_le _ _
theorem Wh.below_u (X : Wh) {k : Nat} (h : k < X.u) : gd X.T k = 3 := lead_lt _ _ h
theorem Wh.at_u (X : Wh) (h : X.u < X.T.length) : gd X.T X.u ≠ 3 := lead_at _ h
theorem Wh.below_sent (X : Wh) {k : Nat} (h : k < X.sent) : gd X.T k ≠ 0 := first_lt _ _ _ h
theorem Wh.u_sent (X : Wh) : X.u ≤ X.sent := by
  rcases Nat.lt_or_ge X.sent X.u with h | h
  · have h1 := X.below_u h
    have h2 := first_at 0 X.T (Nat.lt_of_lt_of_le h X.u_le)
    have h3 : gd X.T X.sent = 0 := h2
    rw [h3] at h1; cases h1
  · exact h
theorem Wh.mono_of (T : List Int) (m : Nat) (hm : m ≤ T.length) (h1 : ∀ k, k < m → gd T k ≠ 0) (h2 : ∀ k, m ≤ k → gd T k = 0) : first 0 T = m ∧ ∀ j, first 0 T ≤ j → gd T j = 0 := by
  have e := first_is hm h1 (fun _ => h2 m (Nat.le_refl _))
  exact ⟨e, fun j hj => h2 j (by omega)⟩
theorem Wh.Ok.good {X : Wh} (h : X.Ok) : Good X.buf := by
  have h1 := X.u_le; have h2 := X.sent_le; have h3 := X.u_sent; have h4 := h.len; have h5 := h.few; have h6 := h.cap
  refine ⟨h.l1, h.l2, by simp [Wh.buf], by simp only [Wh.buf]; omega, by simp [Wh.buf, h4], by simp [Wh.buf]; omega, by simp only [Wh.buf]; omega, by simp [Wh.buf]; omega⟩
theorem Wh.space_buf {X : Wh} (h : X.Ok) : spaceF X.buf = X.space := by
  have h1 := X.u_le; have h4 := h.len
  unfold spaceF Wh.space
  simp only [Wh.buf, List.length_drop]
  split
  · rfl
  · omega
theorem Wh.writeN_buf {X : Wh} (h : X.Ok) (s : ByteArray) : Go.Proofs.Ytmjekepiplibkaa.writeN X.buf s = X.writeN s := by
  unfold Go.Proofs.Ytmjekepiplibkaa.writeN Wh.writeN; rw [Wh.space_buf h]
theorem lead_app (T : List Int) (n : Nat) : lead (T ++ List.replicate n 0) = lead T := by
  have hl := lead_le T
  refine lead_is (by simp; omega) (fun k hk => ?_) (fun hk => ?_)
  · rw [gd_append, if_pos (by omega)]; exact lead_lt _ _ hk
  · rw [gd_append]
    split
    · exact lead_at _ ‹_›
    · simp at hk
      rw [gd_replicate _ _ _ (by omega)]; decide
theorem first_app (T : List Int) (n : Nat) : first 0 (T ++ List.replicate n 0) = first 0 T := by
  have hl := first_le 0 T
  refine first_is (by simp; omega) (fun k hk => ?_) (fun hk => ?_)
  · rw [gd_append, if_pos (by omega)]; exact first_lt _ _ _ hk
  · rw [gd_append]
    split
    · exact first_at _ _ ‹_›
    · simp at hk
      rw [gd_replicate _ _ _ (by omega)]
theorem Wh.write_buf {X : Wh} (h : X.Ok) (s : ByteArray) : writeF X.buf s = (X.write s).buf := by
  have h1 := X.u_le; have h4 := h.len
  have e1 : (X.write s).u = X.u := lead_app _ _
  have e2 : (X.write s).sent = X.sent := first_app _ _
  unfold writeF
  rw [Wh.writeN_buf h]
  simp only [Wh.buf, e1, e2, Bf.mk.injEq, true_and]
  refine ⟨rfl, ?_, ?_, rfl, rfl⟩
  · show _ = (X.S ++ _).drop _
    rw [List.drop_append_of_le_length (by omega)]
  · show _ = (X.T ++ _).drop _
    rw [List.drop_append_of_le_length (by omega)]
theorem Wh.writeN_le (X : Wh) (s : ByteArray) : X.writeN s ≤ s.size ∧ ((X.writeN s : Int) ≤ X.space ∨ X.writeN s = 0) := by unfold Wh.writeN; omega
theorem Wh.Ok.write {X : Wh} (h : X.Ok) (s : ByteArray) (hs : X.S.length + X.writeN s ≤ 1125899906842624) : (X.write s).Ok := by
  have h1 := X.u_le; have h4 := h.len; have h6 := h.cap
  have e1 : (X.write s).u = X.u := lead_app _ _
  have e2 : (X.write s).sent = X.sent := first_app _ _
  have hn := X.writeN_le s
  have hS : (X.write s).S.length = X.S.length + X.writeN s := by simp [Wh.write, bytesOf_length]; omega
  refine ⟨h.l1, h.l2, ?_, by omega, ?_, fun j hj => ?_⟩
  · rw [hS]; simp [Wh.write, h4]
  · rw [hS, e1]
    show _ ≤ X.lim
    unfold Wh.space at hn
    split at hn <;> omega
  · rw [e2] at hj
    show gd (X.T ++ _) j = 0
    rw [gd_append]
    split
    · exact h.mono j hj
    · by_cases hk : j - X.T.length < X.writeN s
      · exact gd_replicate _ _ _ hk
      · exact gd_ge (by simp; omega)
theorem Wh.open_buf (X : Wh) : openF X.buf = X.opn := rfl
theorem Wh.first2 {X : Wh} (_ : X.Ok) : first 2 X.T = X.u + first 2 (X.T.drop X.u) := first_drop 2 X.T X.u X.u_le (fun j hj => by rw [X.below_u hj]; decide)
def Wh.shift (X : Wh) (p : Nat × Nat) : Nat × Nat := (p.1 - X.u, p.2 - X.u)
theorem Wh.nextP_buf {X : Wh} (h : X.Ok) (most credit : Int) : Go.Proofs.Ytmjekepiplibkaa.nextP X.buf most credit = (X.nextP most credit).map X.shift := by
  have h1 := X.u_le; have h4 := h.len; have h3 := X.u_sent; have h2 := X.sent_le
  have hf := Wh.first2 h
  unfold Go.Proofs.Ytmjekepiplibkaa.nextP Wh.nextP
  by_cases hm : most < 0
  · rw [if_pos hm, if_pos hm]; rfl
  · rw [if_neg hm, if_neg hm]
    have hw : writtenF X.buf = X.S.length := by simp [writtenF, Wh.buf]; omega
    have hs : X.buf.sent = X.sent := rfl
    have hb : X.buf.base = X.u := rfl
    have hd : (first 2 (X.T.drop X.u) < (X.T.drop X.u).length) ↔ first 2 X.T < X.T.length := by rw [hf, List.length_drop]; omega
    by_cases h0 : 0 < most ∧ first 2 X.T < X.T.length
    · rw [if_pos h0]
      have e := runF_eq X.buf most (by omega)
      rw [show X.buf.st = X.T.drop X.u from rfl, if_pos (hd.2 h0.2), List.drop_drop, ← hf] at e
      have hr : 1 ≤ runLen 2 (X.T.drop (first 2 X.T)) most.toNat := by
        obtain ⟨m, hm2⟩ : ∃ m, most.toNat = m + 1 := ⟨most.toNat - 1, by omega⟩
        rw [hm2, List.drop_eq_getElem_cons h0.2]
        have := first_at 2 X.T h0.2
        rw [gd_lt h0.2] at this
        rw [this]; simp [runLen]
      rw [e, if_pos ⟨h0.1, by simp only []; omega⟩]
      simp only [Option.map_some, Wh.shift, Option.some.injEq, Prod.mk.injEq]
      omega
    · rw [if_neg h0]
      have e : ¬ (0 < most ∧ (runF X.buf most).1 < (runF X.buf most).2) := by
        rintro ⟨a, b⟩
        have e := runF_eq X.buf most (by omega)
        rw [show X.buf.st = X.T.drop X.u from rfl, if_neg (fun hh => h0 ⟨a, hd.1 hh⟩)] at e
        rw [e] at b; simp at b
      rw [if_neg e, hw, hs, hb]
      by_cases h5 : X.sent < X.S.length ∧ 0 < most ∧ 0 < credit
      · rw [if_pos (by omega), if_pos h5]
        simp only [Option.map_some, Wh.shift, Option.some.injEq, Prod.mk.injEq]
        omega
      · rw [if_neg (by omega), if_neg h5]
        by_cases h6 : X.sent = X.S.length ∧ X.opn = true
        · rw [if_pos ⟨by omega, by rw [Wh.open_buf]; exact h6.2⟩, if_pos h6]
          simp only [Option.map_some, Wh.shift, Option.some.injEq, Prod.mk.injEq]
          omega
        · rw [if_neg (fun hh => h6 ⟨by omega, by rw [Wh.open_buf] at hh; exact hh.2⟩), if_neg h6]; rfl
/-- what can be framed -/
structure Wh.Piece (X : Wh) (f t : Nat) : Prop where
  u : X.u ≤ f
  ft : f ≤ t
  t : t ≤ X.S.length
  sent : f ≤ X.sent
theorem Wh.nextP_piece {X : Wh} (h : X.Ok) {most credit : Int} {p : Nat × Nat} (hp : X.nextP most credit = some p) : X.Piece p.1 p.2 := by
  have h1 := X.u_le; have h4 := h.len; have h3 := X.u_sent; have h2 := X.sent_le
  have hf := Wh.first2 h
  unfold Wh.nextP at hp
  split at hp
  · cases hp
  · split at hp
    · rename_i h0
      cases hp
      have hr := (runLen_le 2 (X.T.drop (first 2 X.T)) most.toNat).2
      simp only [List.length_drop] at hr
      refine ⟨by simp only []; omega, by simp only []; omega, by simp only []; omega, ?_⟩
      simp only []
      rcases Nat.lt_or_ge X.sent (first 2 X.T) with h9 | h9
      · have := first_at 2 X.T h0.2
        rw [h.mono (first 2 X.T) (by omega)] at this
        cases this
      · exact h9
    · split at hp
      · cases hp; exact ⟨h3, by simp only []; omega, by simp only []; omega, Nat.le_refl _⟩
      · split at hp
        · cases hp; exact ⟨h3, Nat.le_refl _, by simp only []; omega, Nat.le_refl _⟩
        · cases hp
theorem Wh.frame_u {X : Wh} (h : X.Ok) {f t : Nat} (hp : X.Piece f t) : (X.frame f t).u = X.u := by
  have h1 := X.u_le; have h4 := h.len
  obtain ⟨a, b, c, d⟩ := hp
  refine lead_is (by simp only [Wh.frame, setTo_length]; exact h1) (fun k hk => ?_) (fun hk => ?_)
  · simp only [Wh.frame]; rw [gd_setTo _ _ _ _ _ (by omega), if_neg (by omega)]; exact X.below_u hk
  · simp only [Wh.frame, setTo_length] at hk ⊢
    rw [gd_setTo _ _ _ _ _ (by omega)]
    split
    · decide
    · exact X.at_u hk
theorem Wh.frame_sent {X : Wh} (h : X.Ok) {f t : Nat} (hp : X.Piece f t) : (X.frame f t).sent = max X.sent t ∧ ∀ j, (X.frame f t).sent ≤ j → gd (X.frame f t).T j = 0 := by
  have h2 := X.sent_le; have h4 := h.len
  obtain ⟨a, b, c, d⟩ := hp
  have := Wh.mono_of (X.frame f t).T (max X.sent t) (by simp only [Wh.frame, setTo_length]; omega) (fun k hk => ?_) (fun k hk => ?_)
  · exact this
  · simp only [Wh.frame]
    rw [gd_setTo _ _ _ _ _ (by omega)]
    split
    · decide
    · exact X.below_sent (by omega)
  · simp only [Wh.frame]
    rw [gd_setTo _ _ _ _ _ (by omega), if_neg (by omega)]
    exact h.mono k (by omega)
theorem Wh.Ok.frame {X : Wh} (h : X.Ok) {f t : Nat} (hp : X.Piece f t) : (X.frame f t).Ok :=
  ⟨h.l1, h.l2, by simp only [Wh.frame, setTo_length]; exact h.len, h.few, by rw [Wh.frame_u h hp]; exact h.cap, (Wh.frame_sent h hp).2⟩
theorem Wh.fin_buf {X : Wh} (h : X.Ok) {f t : Nat} (hp : X.Piece f t) : finF X.buf (t - X.u) = X.finT t := by
  have h1 := X.u_le; have h4 := h.len
  obtain ⟨a, b, c, d⟩ := hp
  unfold finF Wh.finT
  rw [Wh.open_buf]
  congr 1
  simp only [Wh.buf, List.length_drop]
  apply decide_eq_decide.2
  omega
theorem sentUp_eq (B : Bf) (t : Nat) : sentUp B t = max B.sent (B.base + t) := by unfold sentUp; split <;> omega
theorem Wh.frame_buf {X : Wh} (h : X.Ok) {f t : Nat} (hp : X.Piece f t) : frameB X.buf (f - X.u) (t - X.u) = (X.frame f t).buf := by
  have h1 := X.u_le; have h4 := h.len
  have e1 := Wh.frame_u h hp
  have e2 := (Wh.frame_sent h hp).1
  have e3 := Wh.fin_buf h hp
  obtain ⟨a, b, c, d⟩ := hp
  unfold frameB
  rw [e3, sentUp_eq]
  simp only [Wh.buf, e1, e2, Bf.mk.injEq, true_and]
  refine ⟨rfl, rfl, ?_, ?_, rfl, rfl⟩
  · refine ext_gd (by simp [setTo_length, Wh.frame]) (fun j hj => ?_)
    simp only [setTo_length, List.length_drop] at hj
    rw [gd_setTo _ _ _ _ _ (by simp only [List.length_drop]; omega), gd_drop, gd_drop]
    simp only [Wh.frame]
    rw [gd_setTo _ _ _ _ _ (by omega)]
    by_cases e : f ≤ X.u + j ∧ X.u + j < f + (t - f)
    · rw [if_pos e, if_pos (by omega)]
    · rw [if_neg e, if_neg (by omega)]
  · omega
theorem Wh.frameR_buf {X : Wh} (h : X.Ok) {f t : Nat} (hp : X.Piece f t) : Go.Proofs.Ytmjekepiplibkaa.frameR X.buf (f - X.u) (t - X.u) = X.frameR f t := by
  have e3 := Wh.fin_buf h hp
  obtain ⟨a, b, c, d⟩ := hp
  unfold Go.Proofs.Ytmjekepiplibkaa.frameR Wh.frameR
  rw [e3]
  simp only [Wh.buf, List.drop_drop]
  rw [show X.u + (f - X.u) = f by omega, show t - X.u - (f - X.u) = t - f by omega, show ((X.u : Int) + ((f - X.u : Nat) : Int)) = f by omega]
theorem Wh.Ok.next {X : Wh} (h : X.Ok) (most credit : Int) : (X.nextX (X.nextP most credit)).Ok := by
  cases hp : X.nextP most credit with
  | none => exact h
  | some p => exact h.frame (Wh.nextP_piece h hp)
theorem Wh.nextX_buf {X : Wh} (h : X.Ok) (most credit : Int) : nextB X.buf (Go.Proofs.Ytmjekepiplibkaa.nextP X.buf most credit) = (X.nextX (X.nextP most credit)).buf := by
  rw [Wh.nextP_buf h]
  cases hp : X.nextP most credit with
  | none => rfl
  | some p => exact Wh.frame_buf h (Wh.nextP_piece h hp)
theorem Wh.nextR_buf {X : Wh} (h : X.Ok) (most credit : Int) : Go.Proofs.Ytmjekepiplibkaa.nextR X.buf (Go.Proofs.Ytmjekepiplibkaa.nextP X.buf most credit) = X.nextR (X.nextP most credit) := by
  rw [Wh.nextP_buf h]
  cases hp : X.nextP most credit with
  | none => rfl
  | some p => exact Wh.frameR_buf h (Wh.nextP_piece h hp)
theorem Wh.isSome_buf {X : Wh} (h : X.Ok) (most credit : Int) : (Go.Proofs.Ytmjekepiplibkaa.nextP X.buf most credit).isSome = (X.nextP most credit).isSome := by
  rw [Wh.nextP_buf h]; simp
theorem all_range {n : Nat} {p q : Nat → Bool} (h : ∀ i, i < n → p i = q i) : (List.range n).all p = (List.range n).all q := by
  rw [Bool.eq_iff_iff]
  simp only [List.all_eq_true, List.mem_range]
  exact ⟨fun a i hi => (h i hi) ▸ a i hi, fun a i hi => (h i hi).symm ▸ a i hi⟩
theorem Wh.fits_buf {X : Wh} (h : X.Ok) (f : Fr) : fitsF X.buf f = X.fits f := by
  have h1 := X.u_le; have h4 := h.len
  unfold fitsF Wh.fits
  have eh : headF X.buf f = X.head f := rfl
  have et : tailF X.buf f = X.tail f := by
    unfold tailF Wh.tail
    have hw : writtenF X.buf = X.S.length := by simp [writtenF, Wh.buf]; omega
    rw [hw]; rfl
  rw [eh, et]
  by_cases hh : X.head f = true
  · congr 2
    apply all_range
    intro i hi
    unfold Go.Proofs.Ytmjekepiplibkaa.okAt Wh.okAt
    have ho : 0 ≤ f.off := by simp [Wh.head] at hh; exact hh.1.1.2
    by_cases h9 : f.off + i < X.u
    · rw [show decide (f.off + (i : Int) < X.u) = true from decide_eq_true h9, show decide (f.off + (i : Int) - X.buf.base < 0) = true from decide_eq_true (show f.off + (i : Int) - (X.u : Int) < 0 by omega)]; rfl
    · rw [show decide (f.off + (i : Int) < X.u) = false from decide_eq_false h9, show decide (f.off + (i : Int) - X.buf.base < 0) = false from decide_eq_false (show ¬ (f.off + (i : Int) - (X.u : Int) < 0) by omega)]
      congr 1
      have e : X.buf.data[(f.off + (i : Int) - X.buf.base).toNat]?.getD 0 = gd X.S (f.off + i).toNat := by
        show gd (X.S.drop X.u) (f.off + (i : Int) - (X.u : Int)).toNat = _
        rw [gd_drop]; congr 1; omega
      rw [e]
  · rw [Bool.not_eq_true] at hh; rw [hh]; rfl
theorem turn_3 (A : Bool) : turn A 3 = 3 := by cases A <;> rfl
theorem turn_ne0 (A : Bool) {x : Int} (h : x ≠ 0) : turn A x ≠ 0 := by
  cases A
  · unfold turn
    by_cases e : x = 1
    · simp [e]
    · simp [e, h]
  · simp [turn]
theorem turn_ne3 {x : Int} (h : x ≠ 3) : turn false x ≠ 3 := by
  unfold turn
  by_cases e : x = 1
  · simp [e]
  · simp [e, h]
structure Wh.Fit (X : Wh) (f : Fr) : Prop where
  off : 0 ≤ f.off
  le : f.off.toNat + f.s.size ≤ X.sent
theorem Wh.fits_fit {X : Wh} {f : Fr} (h : X.fits f = true) : X.Fit f := by
  simp only [Wh.fits, Wh.head, Bool.and_eq_true, decide_eq_true_eq] at h
  exact ⟨h.1.1.1.1.2, by omega⟩
theorem Wh.mark_drop (A : Bool) {X : Wh} (_h : X.Ok) {f : Fr} (hf : X.Fit f) : turnTo A (X.T.drop X.u) (markLo X.buf f) (markHi X.buf f - markLo X.buf f) = (mark A X f).T.drop X.u := by
  have h1 := X.u_le; have h2 := X.sent_le
  obtain ⟨ho, hl⟩ := hf
  have el : markLo X.buf f = (f.off - X.u).toNat := rfl
  have eh : markHi X.buf f = (f.off + f.s.size - X.u).toNat := rfl
  have hb : markHi X.buf f ≤ X.T.length - X.u := by omega
  refine ext_gd (by simp [turnTo_length, Wh.mark]) (fun j hj => ?_)
  simp only [turnTo_length, List.length_drop] at hj
  by_cases hlo : markLo X.buf f ≤ markHi X.buf f
  · rw [gd_turnTo _ _ _ _ _ (by simp only [List.length_drop]; omega), gd_drop, gd_drop]
    simp only [Wh.mark]
    rw [gd_turnTo _ _ _ _ _ (by omega)]
    by_cases e : f.off.toNat ≤ X.u + j ∧ X.u + j < f.off.toNat + f.s.size
    · rw [if_pos e, if_pos (by omega)]
    · rw [if_neg e, if_neg (by omega)]
  · rw [show markHi X.buf f - markLo X.buf f = 0 by omega, turnTo, gd_drop, gd_drop]
    simp only [Wh.mark]
    rw [gd_turnTo _ _ _ _ _ (by omega), if_neg (by omega)]
theorem Wh.mark_below (A : Bool) {X : Wh} {f : Fr} (hf : X.Fit f) {k : Nat} (hk : k < X.u) : gd (mark A X f).T k = 3 := by
  have h2 := X.sent_le
  obtain ⟨ho, hl⟩ := hf
  simp only [Wh.mark]
  rw [gd_turnTo _ _ _ _ _ (by omega), X.below_u hk, turn_3]
  split <;> rfl
theorem Wh.mark_sent (A : Bool) {X : Wh} (h : X.Ok) {f : Fr} (hf : X.Fit f) : (mark A X f).sent = X.sent ∧ ∀ j, (mark A X f).sent ≤ j → gd (mark A X f).T j = 0 := by
  have h2 := X.sent_le
  obtain ⟨ho, hl⟩ := hf
  have := Wh.mono_of (mark A X f).T X.sent (by simp only [Wh.mark, turnTo_length]; omega) (fun k hk => ?_) (fun k hk => ?_)
  · exact this
  · simp only [Wh.mark]
    rw [gd_turnTo _ _ _ _ _ (by omega)]
    have := X.below_sent hk
    split
    · exact turn_ne0 A this
    · exact this
  · simp only [Wh.mark]
    rw [gd_turnTo _ _ _ _ _ (by omega), if_neg (by omega)]
    exact h.mono k hk
theorem Wh.lost_u {X : Wh} {f : Fr} (hf : X.Fit f) : (mark false X f).u = X.u := by
  have h1 := X.u_le; have h2 := X.sent_le
  refine lead_is (by simp only [Wh.mark, turnTo_length]; exact h1) (fun k hk => Wh.mark_below false hf hk) (fun hk => ?_)
  obtain ⟨ho, hl⟩ := hf
  simp only [Wh.mark, turnTo_length] at hk ⊢
  have := X.at_u hk
  rw [gd_turnTo _ _ _ _ _ (by omega)]
  split
  · exact turn_ne3 this
  · exact this
theorem Wh.acked_u {X : Wh} {f : Fr} (hf : X.Fit f) : (mark true X f).u = X.u + lead ((mark true X f).T.drop X.u) := by
  have h1 := X.u_le
  have hT : (mark true X f).T.length = X.T.length := by simp only [Wh.mark, turnTo_length]
  have hl := lead_le ((mark true X f).T.drop X.u)
  simp only [List.length_drop, hT] at hl
  refine lead_is (by omega) (fun k hk => ?_) (fun hk => ?_)
  · by_cases e : k < X.u
    · exact Wh.mark_below true hf e
    · have := lead_lt ((mark true X f).T.drop X.u) (k - X.u) (by omega)
      have e2 : gd ((mark true X f).T.drop X.u) (k - X.u) = 3 := this
      rw [gd_drop, show X.u + (k - X.u) = k by omega] at e2
      exact e2
  · have := lead_at ((mark true X f).T.drop X.u) (by simp only [List.length_drop]; omega)
    have e2 : gd ((mark true X f).T.drop X.u) (lead ((mark true X f).T.drop X.u)) ≠ 3 := this
    rw [gd_drop] at e2
    exact e2
theorem Wh.Ok.mark {X : Wh} (h : X.Ok) (A : Bool) {f : Fr} (hf : X.Fit f) : (Wh.mark A X f).Ok := by
  refine ⟨h.l1, h.l2, by simp only [Wh.mark, turnTo_length]; exact h.len, h.few, ?_, (Wh.mark_sent A h hf).2⟩
  have h6 := h.cap
  cases A
  · rw [Wh.lost_u hf]; exact h6
  · rw [Wh.acked_u hf]; show (X.S.length : Int) - _ ≤ X.lim; omega
theorem Wh.lost_buf {X : Wh} (h : X.Ok) (f : Fr) : lostB X.buf f = (X.lost f).buf := by
  unfold lostB Wh.lost
  rw [Wh.fits_buf h]
  cases hf : X.fits f
  · rfl
  · have hF := Wh.fits_fit hf
    have e1 := Wh.lost_u hF
    have e2 := (Wh.mark_sent false h hF).1
    simp only [if_true]
    unfold markB
    rw [show X.buf.st = X.T.drop X.u from rfl, Wh.mark_drop false h hF]
    simp only [Wh.buf, e1, e2]
    rfl
theorem Wh.acked_buf {X : Wh} (h : X.Ok) (f : Fr) : ackB X.buf f = (X.acked f).buf := by
  unfold ackB Wh.acked
  rw [Wh.fits_buf h]
  cases hf : X.fits f
  · rfl
  · have hF := Wh.fits_fit hf
    have e1 := Wh.acked_u hF
    have e2 := (Wh.mark_sent true h hF).1
    simp only [if_true]
    unfold ackedB markB dropB
    rw [show X.buf.st = X.T.drop X.u from rfl, Wh.mark_drop true h hF]
    simp only [Wh.buf, e1, e2, List.drop_drop, Bf.mk.injEq]
    refine ⟨?_, ?_, ?_, ?_, ?_, ?_, ?_⟩ <;> first | trivial | rfl | omega
theorem Wh.err_buf {X : Wh} (h : X.Ok) (f : Fr) : ackE X.buf f = X.err f := by unfold ackE Wh.err; rw [Wh.fits_buf h]
theorem Wh.Ok.acked {X : Wh} (h : X.Ok) (f : Fr) : (X.acked f).Ok := by
  unfold Wh.acked; split
  · exact h.mark true (Wh.fits_fit ‹_›)
  · exact h
theorem Wh.Ok.lost {X : Wh} (h : X.Ok) (f : Fr) : (X.lost f).Ok := by
  unfold Wh.lost; split
  · exact h.mark false (Wh.fits_fit ‹_›)
  · exact h
/-! the contracts in these words -/
section
variable {W w : World} {b : Nat} {F : Nat → Prop} {fs : List (Nat × Fr)} {X : Wh}
theorem wh_write (h : St W w b F X.buf fs) (hx : X.Ok) (s : ByteArray) (hs : s.size ≤ maxLen) :
    Calls Try.prog 14 #[.pointer (some ⟨b, 0, none⟩), .string s] w fun e w' => e = .returned (.int .i64 (X.writeN s : Int)) ∧ ∃ F', St W w' b F' (X.write s).buf fs := by
  have := st_write h hx.good s hs
  rw [Wh.writeN_buf hx, Wh.write_buf hx] at this; exact this
theorem wh_next (h : St W w b F X.buf fs) (hx : X.Ok) (most credit : Int) :
    Calls Try.prog 16 #[.pointer (some ⟨b, 0, none⟩), .int .i64 most, .int .i64 credit] w fun e w' => e = .returned (.tuple #[(X.nextR (X.nextP most credit)).val, .bool (X.nextP most credit).isSome]) ∧ ∃ F', St W w' b F' (X.nextX (X.nextP most credit)).buf fs := by
  have := st_next h hx.good most credit
  rw [Wh.nextR_buf hx, Wh.nextX_buf hx, Wh.isSome_buf hx] at this; exact this
theorem wh_lost (h : St W w b F X.buf fs) (hx : X.Ok) (f : Fr) :
    Calls Try.prog 17 #[.pointer (some ⟨b, 0, none⟩), f.val] w fun e w' => e = .returned (.int .i64 (X.err f)) ∧ ∃ F', St W w' b F' (X.lost f).buf fs := by
  have := st_lost h hx.good f
  rw [Wh.err_buf hx, Wh.lost_buf hx] at this; exact this
theorem wh_acked (h : St W w b F X.buf fs) (hx : X.Ok) (f : Fr) :
    Calls Try.prog 18 #[.pointer (some ⟨b, 0, none⟩), f.val] w fun e w' => e = .returned (.int .i64 (X.err f)) ∧ ∃ F', St W w' b F' (X.acked f).buf fs := by
  have := st_acked h hx.good f
  rw [Wh.err_buf hx, Wh.acked_buf hx] at this; exact this
theorem wh_space (h : St W w b F X.buf fs) (hx : X.Ok) :
    Calls Try.prog 19 #[.pointer (some ⟨b, 0, none⟩)] w fun e w' => e = .returned (.int .i64 X.space) ∧ ∃ F', St W w' b F' X.buf fs := by
  have := st_space h hx.good
  rw [Wh.space_buf hx] at this; exact this
theorem wh_sent (h : St W w b F X.buf fs) :
    Calls Try.prog 21 #[.pointer (some ⟨b, 0, none⟩)] w fun e w' => e = .returned (.int .i64 X.sent) ∧ w = w' :=
  (sent_any b F X.buf w h.inv).mono fun _ _ hh => ⟨hh.1, hh.2.symm⟩
theorem wh_written (h : St W w b F X.buf fs) (hx : X.Ok) :
    Calls Try.prog 20 #[.pointer (some ⟨b, 0, none⟩)] w fun e w' => e = .returned (.int .i64 X.S.length) ∧ ∃ m, w' = w.drewN m := by
  have := written_any b F X.buf w h.inv hx.good
  have hw : writtenF X.buf = X.S.length := by have := X.u_le; have := hx.len; simp [writtenF, Wh.buf]; omega
  rw [hw] at this; exact this
def Wh.done (X : Wh) : Bool := X.fin && decide (X.u = X.S.length) && decide (X.ed = 3)
theorem wh_done (h : St W w b F X.buf fs) (hx : X.Ok) :
    Calls Try.prog 13 #[.pointer (some ⟨b, 0, none⟩)] w fun e w' => e = .returned (.bool X.done) ∧ w = w' :=
  (done_any b F X.buf w h.inv).mono fun _ _ hh => ⟨by
    rw [hh.1]; have h1 := X.u_le; have h4 := hx.len
    have : doneF X.buf = X.done := by
      unfold doneF Wh.done
      simp only [Wh.buf, List.length_drop]
      congr 2
      apply decide_eq_decide.2; omega
    rw [this], hh.2.symm⟩
theorem wh_finish (h : St W w b F X.buf fs) :
    Calls Try.prog 15 #[.pointer (some ⟨b, 0, none⟩)] w fun e w' => e = .returned (.tuple #[]) ∧ ∃ F', St W w' b F' ({ X with fin := true } : Wh).buf fs := st_finish h
end
theorem Wh.Ok.finish {X : Wh} (h : X.Ok) : ({ X with fin := true } : Wh).Ok := ⟨h.l1, h.l2, h.len, h.few, h.cap, h.mono⟩
def newX (n : Int) : Wh := ⟨n, [], [], false, 0⟩
theorem newX_ok (n : Int) (h1 : 1 ≤ n) (h2 : n ≤ 8192) : (newX n).Ok := ⟨h1, h2, rfl, by simp [newX], by simp [newX, Wh.u]; omega, fun j _ => rfl⟩
theorem newX_buf (n : Int) : (newX n).buf = newB n := rfl
end Go.Proofs.Ytmjekepiplibkaa
