/- Texts Lma Lmb Lmc Lmd of this claim, one behind the other. -/
import Derived.Test.YtpfkeohaaeiaaaaGreatDoorRc27
import Derived.Test.YtpfkeohaaeiaaaaGreatDoorRc28
import Derived.Test.YtpfkeohaaeiaaaaGreatDoorRc18
/- SendBufReliable: plain laws: what was sent, lost, acknowledged and received. -/
namespace Go.Proofs.YtpfkeohaaeiaaaaGreatDoor
open Go.RowKit
/-- the frame of a packet, out of the list of all frames sent -/
def frP (hs : List Fr) (p : frm.Pk) : Fr := hs[p.pn.toNat]?.getD fr0
/-- byte j lies in f -/
abbrev inFr (f : Fr) (j : Nat) : Prop := f.off.toNat ≤ j ∧ j < f.off.toNat + f.s.size
def covF (hs : List Fr) (l : List frm.Pk) (j : Nat) : Prop := ∃ p ∈ l, inFr (frP hs p) j
def covE (hs : List Fr) (l : List frm.Pk) : Prop := ∃ p ∈ l, (frP hs p).fin = true
theorem covF_snoc {hs : List Fr} {l : List frm.Pk} {p : frm.Pk} {j : Nat} : covF hs (l ++ [p]) j ↔ covF hs l j ∨ inFr (frP hs p) j := by
  unfold covF
  constructor
  · rintro ⟨q, hq, h⟩
    rcases List.mem_append.1 hq with hq | hq
    · exact .inl ⟨q, hq, h⟩
    · rw [List.mem_singleton.1 hq] at h; exact .inr h
  · rintro (⟨q, hq, h⟩ | h)
    · exact ⟨q, List.mem_append_left _ hq, h⟩
    · exact ⟨p, List.mem_append_right _ (List.mem_singleton_self _), h⟩
theorem covE_snoc {hs : List Fr} {l : List frm.Pk} {p : frm.Pk} : covE hs (l ++ [p]) ↔ covE hs l ∨ (frP hs p).fin = true := by
  unfold covE
  constructor
  · rintro ⟨q, hq, h⟩
    rcases List.mem_append.1 hq with hq | hq
    · exact .inl ⟨q, hq, h⟩
    · rw [List.mem_singleton.1 hq] at h; exact .inr h
  · rintro (⟨q, hq, h⟩ | h)
    · exact ⟨q, List.mem_append_left _ hq, h⟩
    · exact ⟨p, List.mem_append_right _ (List.mem_singleton_self _), h⟩
/-- X' is X behind the acknowledgments of la and the losses of ll -/
structure Stl (hs : List Fr) (X X' : Wh) (la ll : List frm.Pk) : Prop where
  ok : X'.Ok
  lim : X'.lim = X.lim
  S : X'.S = X.S
  fin : X'.fin = X.fin
  sent : X'.sent = X.sent
  one : ∀ j, gd X'.T j = 1 → gd X.T j = 1 ∧ ¬ covF hs la j ∧ ¬ covF hs ll j
  three : ∀ j, gd X'.T j = 3 → gd X.T j = 3 ∨ covF hs la j
  keep : ∀ j, gd X.T j = 3 ∨ covF hs la j → gd X'.T j = 3
  vals : ∀ j, 0 ≤ gd X.T j ∧ gd X.T j ≤ 3 → 0 ≤ gd X'.T j ∧ gd X'.T j ≤ 3
  oneE : X'.ed = 1 → X.ed = 1 ∧ ¬ covE hs la ∧ ¬ covE hs ll
  threeE : X'.ed = 3 → X.ed = 3 ∨ covE hs la
  keepE : X.ed = 3 ∨ covE hs la → X'.ed = 3
  valsE : 0 ≤ X.ed ∧ X.ed ≤ 3 → 0 ≤ X'.ed ∧ X'.ed ≤ 3
  nzE : X'.ed ≠ 0 → X.ed ≠ 0
  fro : ∀ f, FrOk X f → FrOk X' f
  same : ∀ j, ¬ covF hs la j → ¬ covF hs ll j → gd X'.T j = gd X.T j
theorem Stl.start (hs : List Fr) {X : Wh} (h : X.Ok) : Stl hs X X [] [] := by
  have n1 : ∀ j, ¬ covF hs [] j := fun j hc => by obtain ⟨p, hp, _⟩ := hc; cases hp
  have n2 : ¬ covE hs [] := fun hc => by obtain ⟨p, hp, _⟩ := hc; cases hp
  exact ⟨h, rfl, rfl, rfl, rfl, fun j hj => ⟨hj, n1 j, n1 j⟩, fun j hj => .inl hj, fun j hj => hj.elim id (fun hc => absurd hc (n1 j)), fun _ hv => hv, fun he => ⟨he, n2, n2⟩, fun he => .inl he, fun he => he.elim id (fun hc => absurd hc n2), id, id, fun _ hf => hf, fun _ _ _ => rfl⟩
theorem gd_mark (A : Bool) {X : Wh} {f : Fr} (hf : X.Fit f) (j : Nat) : gd (Wh.mark A X f).T j = if f.off.toNat ≤ j ∧ j < f.off.toNat + f.s.size then turn A (gd X.T j) else gd X.T j := by
  have := X.sent_le
  obtain ⟨a, b⟩ := hf
  simp only [Wh.mark]
  exact gd_turnTo _ _ _ _ _ (by omega)
theorem ed_mark (A : Bool) (X : Wh) (f : Fr) : (Wh.mark A X f).ed = if f.fin then turn A X.ed else X.ed := rfl
section
variable {hs : List Fr} {X X' : Wh} {la ll : List frm.Pk} {p : frm.Pk}
theorem Stl.ack (h : Stl hs X X' la ll) (hf : FrOk X (frP hs p)) (h0 : (frP hs p).fin = true → X.ed ≠ 0) : Stl hs X (X'.acked (frP hs p)) (la ++ [p]) ll := by
  have hF := (h.fro _ hf).fits
  have hfit := Wh.fits_fit hF
  have e : X'.acked (frP hs p) = Wh.mark true X' (frP hs p) := by unfold Wh.acked; rw [hF]; rfl
  rw [e]
  refine ⟨h.ok.mark true hfit, h.lim, h.S, h.fin, (Wh.mark_sent true h.ok hfit).1.trans h.sent, fun j hj => ?_, fun j hj => ?_, fun j hj => ?_, fun j hv => ?_, fun he => ?_, fun he => ?_, fun he => ?_, fun hv => ?_, fun he => ?_, fun f hg => (h.fro f hg).mark h.ok true hfit, fun j ha hl => ?_⟩
  · rw [gd_mark true hfit] at hj
    by_cases c : inFr (frP hs p) j
    · rw [if_pos c] at hj; cases hj
    · rw [if_neg c] at hj
      obtain ⟨a, b, d⟩ := h.one j hj
      exact ⟨a, fun hc => (covF_snoc.1 hc).elim b c, d⟩
  · rw [gd_mark true hfit] at hj
    by_cases c : inFr (frP hs p) j
    · exact .inr (covF_snoc.2 (.inr c))
    · rw [if_neg c] at hj
      exact (h.three j hj).imp id (fun hc => covF_snoc.2 (.inl hc))
  · rw [gd_mark true hfit]
    by_cases c : inFr (frP hs p) j
    · rw [if_pos c]; rfl
    · rw [if_neg c]
      exact h.keep j (hj.imp id (fun hc => (covF_snoc.1 hc).resolve_right c))
  · rw [gd_mark true hfit]
    split
    · exact (show (0 : Int) ≤ 3 ∧ (3 : Int) ≤ 3 by decide)
    · exact h.vals j hv
  · rw [ed_mark] at he
    cases hfn : (frP hs p).fin with
    | true => rw [hfn] at he; cases he
    | false =>
      rw [hfn] at he
      obtain ⟨a, b, d⟩ := h.oneE he
      exact ⟨a, fun hc => (covE_snoc.1 hc).elim b (fun e2 => by rw [hfn] at e2; cases e2), d⟩
  · rw [ed_mark] at he
    cases hfn : (frP hs p).fin with
    | true => exact .inr (covE_snoc.2 (.inr hfn))
    | false => rw [hfn] at he; exact (h.threeE he).imp id (fun hc => covE_snoc.2 (.inl hc))
  · rw [ed_mark]
    cases hfn : (frP hs p).fin with
    | true => rfl
    | false => exact h.keepE (he.imp id (fun hc => (covE_snoc.1 hc).resolve_right (fun e2 => by rw [hfn] at e2; cases e2)))
  · rw [ed_mark]
    split
    · exact (show (0 : Int) ≤ 3 ∧ (3 : Int) ≤ 3 by decide)
    · exact h.valsE hv
  · rw [ed_mark] at he
    cases hfn : (frP hs p).fin with
    | true => exact h0 hfn
    | false => rw [hfn] at he; exact h.nzE he
  · rw [gd_mark true hfit, if_neg (fun c => ha (covF_snoc.2 (.inr c)))]
    exact h.same j (fun c => ha (covF_snoc.2 (.inl c))) hl
theorem Stl.lose (h : Stl hs X X' la ll) (hf : FrOk X (frP hs p)) : Stl hs X (X'.lost (frP hs p)) la (ll ++ [p]) := by
  have hF := (h.fro _ hf).fits
  have hfit := Wh.fits_fit hF
  have e : X'.lost (frP hs p) = Wh.mark false X' (frP hs p) := by unfold Wh.lost; rw [hF]; rfl
  have t1 : ∀ x : Int, turn false x ≠ 1 := fun x => by unfold turn; simp only [Bool.false_eq_true, if_false]; split <;> omega
  have t3 : ∀ x : Int, turn false x = 3 → x = 3 := fun x => by unfold turn; simp only [Bool.false_eq_true, if_false]; split <;> omega
  have t0 : ∀ x : Int, turn false x ≠ 0 → x ≠ 0 := fun x => by unfold turn; simp only [Bool.false_eq_true, if_false]; split <;> omega
  have tv : ∀ x : Int, 0 ≤ x ∧ x ≤ 3 → 0 ≤ turn false x ∧ turn false x ≤ 3 := fun x => by unfold turn; simp only [Bool.false_eq_true, if_false]; split <;> omega
  rw [e]
  refine ⟨h.ok.mark false hfit, h.lim, h.S, h.fin, (Wh.mark_sent false h.ok hfit).1.trans h.sent, fun j hj => ?_, fun j hj => ?_, fun j hj => ?_, fun j hv => ?_, fun he => ?_, fun he => ?_, fun he => ?_, fun hv => ?_, fun he => ?_, fun f hg => (h.fro f hg).mark h.ok false hfit, fun j ha hl => ?_⟩
  · rw [gd_mark false hfit] at hj
    by_cases c : inFr (frP hs p) j
    · rw [if_pos c] at hj; exact absurd hj (t1 _)
    · rw [if_neg c] at hj
      obtain ⟨a, b, d⟩ := h.one j hj
      exact ⟨a, b, fun hc => (covF_snoc.1 hc).elim d c⟩
  · rw [gd_mark false hfit] at hj
    by_cases c : inFr (frP hs p) j
    · rw [if_pos c] at hj; exact h.three j (t3 _ hj)
    · rw [if_neg c] at hj; exact h.three j hj
  · rw [gd_mark false hfit]
    have := h.keep j hj
    split
    · rw [this]; rfl
    · exact this
  · rw [gd_mark false hfit]
    have := h.vals j hv
    split
    · exact tv _ this
    · exact this
  · rw [ed_mark] at he
    cases hfn : (frP hs p).fin with
    | true => rw [hfn] at he; exact absurd he (t1 _)
    | false =>
      rw [hfn] at he
      obtain ⟨a, b, d⟩ := h.oneE he
      exact ⟨a, b, fun hc => (covE_snoc.1 hc).elim d (fun e2 => by rw [hfn] at e2; cases e2)⟩
  · rw [ed_mark] at he
    split at he
    · exact h.threeE (t3 _ he)
    · exact h.threeE he
  · rw [ed_mark]
    have := h.keepE he
    split
    · rw [this]; rfl
    · exact this
  · rw [ed_mark]
    have := h.valsE hv
    split
    · exact tv _ this
    · exact this
  · rw [ed_mark] at he
    split at he
    · exact h.nzE (t0 _ he)
    · exact h.nzE he
  · rw [gd_mark false hfit, if_neg (fun c => hl (covF_snoc.2 (.inr c)))]
    exact h.same j ha (fun c => hl (covF_snoc.2 (.inl c)))
end
/-! what the receiver holds -/
structure RcL (N s : Nat) (R : rea.Rb) : Prop where
  bl : R.bs.length = 600
  hl : R.hs.length = 600
  held : ∀ k, k < 600 → rea.hg R.hs k = true → R.at_ + k < s ∧ gd R.bs k = streamAt (R.at_ + k)
  ats : R.at_ ≤ s
  his : R.hi ≤ s
  sN : s ≤ N
  kN : R.kn = true → R.fin = N
/-- byte j has come -/
def RecB (R : rea.Rb) (j : Nat) : Prop := j < R.at_ ∨ (R.at_ ≤ j ∧ rea.hg R.hs (j - R.at_) = true)
theorem hg_lt {l : List Bool} {k : Nat} (h : rea.hg l k = true) : k < l.length := by
  rcases Nat.lt_or_ge k l.length with h1 | h1
  · exact h1
  · simp [rea.hg, h1] at h
section
variable {N s : Nat} {R : rea.Rb} {off : Nat} {str : ByteArray} {fin : Bool}
theorem RcL.more (h : RcL N s R) {t : Nat} (h1 : s ≤ t) (h2 : t ≤ N) : RcL N t R :=
  ⟨h.bl, h.hl, fun k hk e => by have := h.held k hk e; exact ⟨by omega, this.2⟩, by have := h.ats; omega, by have := h.his; omega, h2, h.kN⟩
theorem RcL.putOk (h : RcL N s R) (hb : ∀ k, k < str.size → gd (bytesOf str) k = streamAt (off + k)) (he : off + str.size ≤ s) (hf : fin = true → off + str.size = N) (hN : N ≤ 1000) (rm : off + str.size ≤ R.at_ + 600) : rea.PutOk R off str fin := by
  have hs := h.sN; have ha := h.ats; have hh := h.his
  refine ⟨by omega, by omega, rea.agF_true (fun i k h1 h2 h3 h4 => ?_), fun e => ?_, ?_, by rw [h.bl]; exact rm, by omega⟩
  · have h1 : i < (bytesOf str).length := h1
    rw [bytesOf_length] at h1
    rw [h.bl] at h2
    have := (h.held k h2 h4).2
    rw [show rea.gd R.bs k = _ from this, show rea.gd (rea.bytesOf str) i = _ from hb i h1]
    congr 1; omega
  · have := hf e; omega
  · cases hk : R.kn with
    | false => exact .inl rfl
    | true =>
      have := h.kN hk
      by_cases c : off + str.size = N
      · exact .inr (.inl (by omega))
      · refine .inr (.inr ⟨by omega, ?_⟩)
        cases hfn : fin with
        | false => rfl
        | true => exact absurd (hf hfn) c
theorem RcL.put (h : RcL N s R) (hb : ∀ k, k < str.size → gd (bytesOf str) k = streamAt (off + k)) (he : off + str.size ≤ s) (hf : fin = true → off + str.size = N) : RcL N s (R.put off str fin) := by
  have hs := h.sN; have ha := h.ats; have hh := h.his
  refine ⟨by show (rea.putB _ _ _ _ _).length = 600; rw [rea.putB_length]; exact h.bl, by show (rea.putH _ _ _ _).length = 600; rw [rea.putH_length]; exact h.hl, fun k hk e => ?_, ha, ?_, hs, fun e => ?_⟩
  · have e' : rea.hg (rea.putH R.at_ off str.size R.hs) k = true := e
    show R.at_ + k < s ∧ gd (rea.putB R.at_ off (bytesOf str) str.size R.bs) k = streamAt (R.at_ + k)
    rw [rea.hg_putH _ _ _ _ _ (by rw [h.hl]; exact hk), Bool.or_eq_true, decide_eq_true_eq] at e'
    have := rea.gd_putB R.at_ off (bytesOf str) str.size R.bs k (by rw [h.bl]; exact hk)
    rw [show gd (rea.putB R.at_ off (bytesOf str) str.size R.bs) k = _ from this]
    by_cases c : (off : Int) ≤ (R.at_ : Int) + (k : Int) ∧ (R.at_ : Int) + (k : Int) < (off : Int) + (str.size : Int)
    · rw [if_pos c]
      refine ⟨by omega, ?_⟩
      rw [show rea.gd (bytesOf str) ((R.at_ : Int) + (k : Int) - (off : Int)).toNat = _ from hb _ (by omega)]
      congr 1; omega
    · rw [if_neg c]
      exact h.held k hk (e'.resolve_left c)
  · show max R.hi ((off : Int) + str.size) ≤ s
    omega
  · have e' : (R.kn || fin) = true := e
    show (if fin then (off : Int) + str.size else R.fin) = N
    cases hfn : fin with
    | true => have := hf hfn; simp only [if_true]; omega
    | false => rw [hfn, Bool.or_false] at e'; simpa using h.kN e'
theorem RcL.put_mono (_h : RcL N s R) {j : Nat} (hj : RecB R j) : RecB (R.put off str fin) j := by
  rcases hj with hj | ⟨h1, h2⟩
  · exact .inl hj
  · refine .inr ⟨h1, ?_⟩
    show rea.hg (rea.putH R.at_ off str.size R.hs) (j - R.at_) = true
    rw [rea.hg_putH _ _ _ _ _ (hg_lt h2), h2, Bool.or_true]
theorem RcL.put_new (h : RcL N s R) (rm : off + str.size ≤ R.at_ + 600) {j : Nat} (h1 : off ≤ j) (h2 : j < off + str.size) : RecB (R.put off str fin) j := by
  rcases Nat.lt_or_ge j R.at_ with hj | hj
  · exact .inl hj
  · refine .inr ⟨hj, ?_⟩
    show rea.hg (rea.putH R.at_ off str.size R.hs) (j - R.at_) = true
    rw [rea.hg_putH _ _ _ _ _ (by rw [h.hl]; omega), decide_eq_true (by omega), Bool.true_or]
/-- all that is ready is read -/
def rdB (R : rea.Rb) : rea.Rb := { R with at_ := R.at_ + rea.readyF R.hs, bs := rea.takeB (rea.readyF R.hs) R.bs, hs := rea.takeH (rea.readyF R.hs) R.hs }
theorem RcL.ready (h : RcL N s R) : R.at_ + rea.readyF R.hs ≤ s ∧ rea.readyF R.hs ≤ 600 := by
  have h1 := rea.readyF_le R.hs
  rw [h.hl] at h1
  rcases Nat.eq_zero_or_pos (rea.readyF R.hs) with e | e
  · have := h.ats; omega
  · have := h.held (rea.readyF R.hs - 1) (by omega) (rea.readyF_lt R.hs _ (by omega))
    omega
theorem RcL.read (h : RcL N s R) : RcL N s (rdB R) ∧ rea.hg (rdB R).hs 0 = false := by
  obtain ⟨r1, r2⟩ := h.ready
  refine ⟨⟨by show (rea.takeB _ _).length = 600; rw [rea.takeB_length]; exact h.bl, by show (rea.takeH _ _).length = 600; rw [rea.takeH_length]; exact h.hl, fun k hk e => ?_, r1, h.his, h.sN, h.kN⟩, ?_⟩
  · have e' : rea.hg (rea.takeH (rea.readyF R.hs) R.hs) k = true := e
    show R.at_ + rea.readyF R.hs + k < s ∧ gd (rea.takeB (rea.readyF R.hs) R.bs) k = streamAt (R.at_ + rea.readyF R.hs + k)
    rw [rea.hg_takeH _ _ _ (by rw [h.hl]; exact r2), h.hl] at e'
    rw [show gd (rea.takeB (rea.readyF R.hs) R.bs) k = _ from rea.gd_takeB _ _ _ (by rw [h.bl]; exact r2), h.bl]
    by_cases c : rea.readyF R.hs + k < 600
    · rw [if_pos c] at e'
      rw [if_pos c]
      have := h.held _ c e'
      rw [Nat.add_assoc]; exact this
    · rw [if_neg c] at e'; cases e'
  · show rea.hg (rea.takeH (rea.readyF R.hs) R.hs) 0 = false
    rw [rea.hg_takeH _ _ _ (by rw [h.hl]; exact r2), h.hl]
    split
    · exact rea.readyF_at R.hs (by rw [h.hl]; omega)
    · rfl
theorem RcL.read_mono (h : RcL N s R) {j : Nat} (hj : RecB R j) : RecB (rdB R) j := by
  obtain ⟨r1, r2⟩ := h.ready
  by_cases c : j < R.at_ + rea.readyF R.hs
  · exact .inl c
  · rcases hj with hj | ⟨h1, h2⟩
    · omega
    · refine .inr ⟨by show R.at_ + rea.readyF R.hs ≤ j; omega, ?_⟩
      show rea.hg (rea.takeH (rea.readyF R.hs) R.hs) (j - (R.at_ + rea.readyF R.hs)) = true
      have := hg_lt h2
      rw [rea.hg_takeH _ _ _ (by rw [h.hl]; exact r2), if_pos (by omega), show rea.readyF R.hs + (j - (R.at_ + rea.readyF R.hs)) = j - R.at_ by omega]
      exact h2
/-- what is read are the stream's bytes -/
theorem RcL.bytes (h : RcL N s R) : R.bs.take (rea.readyF R.hs) = ((streamRow N N).drop R.at_).take (rea.readyF R.hs) := by
  obtain ⟨r1, r2⟩ := h.ready
  have hs := h.sN
  have hbl := h.bl
  refine ext_gd (by simp [streamRow_length]; omega) (fun k hk => ?_)
  simp only [List.length_take] at hk
  rw [gd_take _ _ _ (by omega), gd_take _ _ _ (by omega), gd_drop, gd_streamRow (by omega)]
  exact (h.held k (by omega) (rea.readyF_lt R.hs k (by omega))).2
end
end Go.Proofs.YtpfkeohaaeiaaaaGreatDoor
/- SendBufReliable: plain laws: the invariant of a Link, kept by each of its steps. -/
namespace Go.Proofs.YtpfkeohaaeiaaaaGreatDoor
open Go.RowKit
def SentFr (f : Fr) : Prop := ∃ (off : Nat) (s : ByteArray) (fin : Bool), f = mkFr 8 off s fin ∧ s.size ≤ 100
/-- the frame has come, its end too -/
def GotF (R : rea.Rb) (f : Fr) : Prop := (∀ j, inFr f j → RecB R j) ∧ (f.fin = true → R.kn = true)
structure LInv (N lim : Nat) (X : Wh) (K : frm.Rc) (hs : List Fr) (R : rea.Rb) (zs : List Int) (n top now : Nat) : Prop where
  ok : X.Ok
  limE : X.lim = lim
  l1 : 1 ≤ lim
  l2 : lim ≤ 100
  N0 : N ≤ 1000
  S : X.S = (streamRow N N).take X.S.length
  SN : X.S.length ≤ N
  fin : X.fin = true → X.S.length = N
  vals : ∀ j, 0 ≤ gd X.T j ∧ gd X.T j ≤ 3
  valsE : 0 ≤ X.ed ∧ X.ed ≤ 3
  edF : X.ed ≠ 0 → X.fin = true
  ko : K.Ok
  nx : K.nx = (hs.length : Int)
  fro : ∀ f ∈ hs, FrOk X f ∧ SentFr f
  one : ∀ j, gd X.T j = 1 → covF hs K.l j
  oneE : X.ed = 1 → covE hs K.l
  tm : ∀ p ∈ K.l, p.time ≤ now
  szs : ∀ p ∈ K.l, p.size = (frP hs p).s.size
  bys : ∀ p ∈ K.l, ∀ j, inFr (frP hs p) j → gd X.T j = 1
  dis : ∀ p ∈ K.l, ∀ q ∈ K.l, p.pn ≠ q.pn → ∀ j, inFr (frP hs p) j → ¬ inFr (frP hs q) j
  rc : RcL N X.sent R
  rdy : rea.hg R.hs 0 = false
  three : ∀ j, gd X.T j = 3 → RecB R j
  threeE : X.ed = 3 → R.kn = true
  tk : ∃ lg wh few, frm.Tg zs n top lg wh few ∧ -1 ≤ lg ∧ lg < top ∧ 0 ≤ wh ∧ wh ≤ now ∧ few ≤ top
  n16 : n ≤ 16
  tp : top ≤ hs.length
  cov : ∀ i : Nat, frm.covB zs n i = true → ∃ f, hs[i]? = some f ∧ GotF R f
section
variable {N lim : Nat} {X X' : Wh} {K K' : frm.Rc} {hs : List Fr} {R : rea.Rb} {zs : List Int} {n top now : Nat} {f : Fr}
theorem frP_grow {p : frm.Pk} (f : Fr) (h : p.pn.toNat < hs.length) : frP (hs ++ [f]) p = frP hs p := by
  unfold frP; rw [List.getElem?_append_left h]
theorem frP_last (hs : List Fr) (f : Fr) {p : frm.Pk} (h : p.pn.toNat = hs.length) : frP (hs ++ [f]) p = f := by
  unfold frP; rw [h, List.getElem?_append_right (Nat.le_refl _)]; simp
theorem frP_mem {p : frm.Pk} (h : p.pn.toNat < hs.length) : frP hs p ∈ hs := by
  unfold frP; rw [List.getElem?_eq_getElem h]; exact List.getElem_mem h
theorem LInv.pn (h : LInv N lim X K hs R zs n top now) {p : frm.Pk} (hp : p ∈ K.l) : 0 ≤ p.pn ∧ p.pn.toNat < hs.length := by
  have := h.ko.up.bnd p hp
  have := h.nx
  omega
theorem LInv.frP (h : LInv N lim X K hs R zs n top now) {p : frm.Pk} (hp : p ∈ K.l) : FrOk X (frP hs p) ∧ SentFr (frP hs p) := h.fro _ (frP_mem (h.pn hp).2)
theorem LInv.u_at (h : LInv N lim X K hs R zs n top now) : X.u ≤ R.at_ := by
  rcases Nat.lt_or_ge R.at_ X.u with h1 | h1
  · have := h.three R.at_ (X.below_u h1)
    rcases this with h2 | ⟨_, h2⟩
    · omega
    · rw [Nat.sub_self] at h2
      rw [h.rdy] at h2; cases h2
  · exact h1
theorem LInv.room (h : LInv N lim X K hs R zs n top now) : X.sent ≤ R.at_ + 100 := by
  have h1 := h.u_at
  have h2 := h.ok.cap
  have h3 := X.sent_le
  have h4 := h.ok.len
  have h5 := h.limE
  have h6 := h.l2
  omega
/-- what a frame that was sent carries -/
theorem LInv.frB (h : LInv N lim X K hs R zs n top now) {off : Nat} {str : ByteArray} {fin : Bool} (hm : mkFr 8 off str fin ∈ hs) :
    (∀ k, k < str.size → gd (bytesOf str) k = streamAt (off + k)) ∧ off + str.size ≤ X.sent ∧ (fin = true → off + str.size = N) ∧ off + str.size ≤ R.at_ + 600 := by
  have hf := (h.fro _ hm).1
  have e1 : (mkFr 8 (off : Int) str fin).off.toNat = off := by show (off : Int).toNat = off; omega
  have e2 : (mkFr 8 (off : Int) str fin).s = str := rfl
  have hle := hf.le
  rw [e1, e2] at hle
  have hsl := X.sent_le
  have hlen := h.ok.len
  have hSN := h.SN
  refine ⟨fun k hk => ?_, hle, fun e => ?_, by have := h.room; omega⟩
  · have hb := hf.bytes
    rw [e1, e2, h.S] at hb
    rw [hb, gd_take _ _ _ hk, gd_drop, gd_take _ _ _ (by omega)]
    exact gd_streamRow (by omega)
  · obtain ⟨a, _, c⟩ := hf.fin e
    rw [e1, e2] at c
    rw [c]; exact h.fin a
theorem LInv.got (h : LInv N lim X K hs R zs n top now) {p : frm.Pk} (hp : p ∈ K.l) (hc : frm.covB zs n p.pn = true) : GotF R (Go.Proofs.YtpfkeohaaeiaaaaGreatDoor.frP hs p) := by
  have h1 := (h.pn hp).1
  obtain ⟨f, h2, h3⟩ := h.cov p.pn.toNat (by rw [show ((p.pn.toNat : Nat) : Int) = p.pn by omega]; exact hc)
  have : Go.Proofs.YtpfkeohaaeiaaaaGreatDoor.frP hs p = f := by unfold Go.Proofs.YtpfkeohaaeiaaaaGreatDoor.frP; rw [h2]; rfl
  rw [this]; exact h3
theorem LInv.tick (h : LInv N lim X K hs R zs n top now) {now' : Nat} (hn : now ≤ now') : LInv N lim X K hs R zs n top now' := by
  obtain ⟨lg, wh, few, h1, h2, h3, h4, h5, h6⟩ := h.tk
  exact { h with tm := fun p hp => by have := h.tm p hp; omega, tk := ⟨lg, wh, few, h1, h2, h3, h4, by omega, h6⟩ }
theorem Wh.A_S (h : LInv N lim X K hs R zs n top now) : bytesOf (strOfNums X.S) = X.S := bytes_str _ (fun x hx => by rw [h.S] at hx; exact streamRow_byte N N x (List.mem_of_mem_take hx))
/-- what Next takes is lost or new -/
theorem Wh.next_20 {X : Wh} (hx : X.Ok) {most credit : Int} {pc : Nat × Nat} (hp : X.nextP most credit = some pc) (j : Nat) (h1 : pc.1 ≤ j) (h2 : j < pc.2) : gd X.T j = 2 ∨ gd X.T j = 0 := by
  unfold Wh.nextP at hp
  split at hp
  · cases hp
  · split at hp
    · cases hp
      simp only at h1 h2
      have := runLen_lt 2 (X.T.drop (first 2 X.T)) most.toNat (j - first 2 X.T) (by omega)
      rw [gd_drop, show first 2 X.T + (j - first 2 X.T) = j by omega] at this
      exact .inl this
    · split at hp
      · cases hp
        simp only at h1
        exact .inr (hx.mono j h1)
      · split at hp
        · cases hp; simp only at h1 h2; omega
        · cases hp
theorem Wh.next_not3 {X : Wh} (hx : X.Ok) {most credit : Int} {pc : Nat × Nat} (hp : X.nextP most credit = some pc) (j : Nat) (h1 : pc.1 ≤ j) (h2 : j < pc.2) : gd X.T j ≠ 3 := by
  have := Wh.next_20 hx hp j h1 h2
  omega
theorem gd_frame {X : Wh} (hx : X.Ok) {a t : Nat} (hP : X.Piece a t) (j : Nat) : gd (X.frame a t).T j = if a ≤ j ∧ j < t then 1 else gd X.T j := by
  have h1 := hP.t; have h2 := hx.len; have h3 := hP.ft
  show gd (setTo X.T 1 a (t - a)) j = _
  rw [gd_setTo _ _ _ _ _ (by omega)]
  by_cases c : a ≤ j ∧ j < t
  · rw [if_pos c, if_pos (by omega)]
  · rw [if_neg c, if_neg (by omega)]
theorem ed_frame (X : Wh) (a t : Nat) : (X.frame a t).ed = if X.finT t then 1 else X.ed := rfl
theorem finT_opn {X : Wh} {t : Nat} (h : X.finT t = true) : t = X.S.length ∧ X.fin = true ∧ (X.ed = 0 ∨ X.ed = 2) := by
  unfold Wh.finT Wh.opn at h
  simp only [Bool.and_eq_true, Bool.or_eq_true, decide_eq_true_eq] at h
  exact h
/-- the frame that Next gives -/
theorem LInv.next (h : LInv N lim X K hs R zs n top now) {most : Int} {pc : Nat × Nat} (hp : X.nextP most 1000 = some pc) (h0 : 0 ≤ most) (_h1 : most ≤ 100) :
    ∃ s fin, X.frameR pc.1 pc.2 = mkFr 8 pc.1 s fin ∧ s.size = pc.2 - pc.1 ∧ (s.size : Int) ≤ most ∧ (s.size = 0 → fin = true) ∧ fin = X.finT pc.2 ∧ FrOk (X.frame pc.1 pc.2) (mkFr 8 pc.1 s fin) := by
  obtain ⟨s, fin, e, hN, hO⟩ := next_frame h.ok (Wh.A_S h) hp h0
  have e' : X.frameR pc.1 pc.2 = mkFr 8 pc.1 s fin := e
  have ef : (X.frameR pc.1 pc.2).fin = X.finT pc.2 := rfl
  refine ⟨s, fin, e', hN.size, by have := hN.most; have := hN.size; omega, fun e0 => hN.empty (by have := hN.size; omega), by rw [e'] at ef; exact ef, hO⟩
theorem covF_grow {l : List frm.Pk} {j : Nat} (hl : ∀ p ∈ l, p.pn.toNat < hs.length) (h : covF hs l j) : covF (hs ++ [f]) l j := by
  obtain ⟨p, hp, hj⟩ := h
  exact ⟨p, hp, by rw [frP_grow f (hl p hp)]; exact hj⟩
theorem covE_grow {l : List frm.Pk} (hl : ∀ p ∈ l, p.pn.toNat < hs.length) (h : covE hs l) : covE (hs ++ [f]) l := by
  obtain ⟨p, hp, hj⟩ := h
  exact ⟨p, hp, by rw [frP_grow f (hl p hp)]; exact hj⟩
theorem LInv.send (h : LInv N lim X K hs R zs n top now) {most : Int} {pc : Nat × Nat} (hp : X.nextP most 1000 = some pc) (h0 : 0 ≤ most) (h1 : most ≤ 100) {fv : Value} (hfv : ∃ a n c, fv = .slice a n c) (hnx : K.nx < 10000) (hnow : now ≤ 1125899906842624) :
    LInv N lim (X.frame pc.1 pc.2) (K.add ⟨K.nx, now, (X.frameR pc.1 pc.2).s.size, true, fv⟩) (hs ++ [X.frameR pc.1 pc.2]) R zs n top now := by
  obtain ⟨s, fin, e, e1, e2, e3, e4, hO⟩ := h.next hp h0 h1
  have hP := Wh.nextP_piece h.ok hp
  have hg := gd_frame h.ok hP
  have hsent := (Wh.frame_sent h.ok hP).1
  have hT := hP.t
  have hSN := h.SN
  have hpn : ∀ p ∈ K.l, p.pn.toNat < hs.length := fun p hp => (h.pn hp).2
  have hnx2 := h.nx
  rw [e]
  have hlast : K.nx.toNat = hs.length := by omega
  have hin : ∀ j, inFr (mkFr 8 (pc.1 : Int) s fin) j → pc.1 ≤ j ∧ j < pc.2 := fun j hj => by
    have h1 : (pc.1 : Int).toNat ≤ j := hj.1
    have h2 : j < (pc.1 : Int).toNat + s.size := hj.2
    have := hP.ft
    omega
  refine ⟨h.ok.frame hP, h.limE, h.l1, h.l2, h.N0, h.S, h.SN, h.fin, fun j => ?_, ?_, fun hz => ?_, h.ko.add _ rfl hnx ⟨Int.natCast_nonneg _, by show (now : Int) ≤ _; omega⟩ hfv, ?_, fun g hgm => ?_, fun j hj => ?_, fun he => ?_, fun p hp => ?_, fun p hp => ?_, fun p hp j hj => ?_, fun p hp q hq hpq j hj hj2 => ?_, h.rc.more (by rw [hsent]; omega) (by rw [hsent]; have := h.rc.sN; omega), h.rdy, fun j hj => ?_, fun he => ?_, h.tk, h.n16, ?_, fun i hi => ?_⟩
  · rw [hg]; split
    · exact ⟨by decide, by decide⟩
    · exact h.vals j
  · rw [ed_frame]; split
    · exact ⟨by decide, by decide⟩
    · exact h.valsE
  · rw [ed_frame] at hz
    split at hz
    · rename_i hf; exact (finT_opn hf).2.1
    · exact h.edF hz
  · show K.nx + 1 = ((hs ++ [_]).length : Int)
    rw [List.length_append, List.length_singleton]; omega
  · rcases List.mem_append.1 hgm with hgm | hgm
    · exact ⟨(h.fro g hgm).1.frame h.ok hP, (h.fro g hgm).2⟩
    · rw [List.mem_singleton.1 hgm]
      exact ⟨hO, pc.1, s, fin, rfl, by omega⟩
  · rw [hg] at hj
    by_cases c : pc.1 ≤ j ∧ j < pc.2
    · refine covF_snoc.2 (.inr ?_)
      rw [frP_last hs _ hlast]
      exact ⟨by show (pc.1 : Int).toNat ≤ j; omega, by show j < (pc.1 : Int).toNat + s.size; omega⟩
    · rw [if_neg c] at hj
      exact covF_snoc.2 (.inl (covF_grow hpn (h.one j hj)))
  · rw [ed_frame, ← e4] at he
    cases hf : fin with
    | true =>
      refine covE_snoc.2 (.inr ?_)
      rw [frP_last hs _ hlast]
      rfl
    | false =>
      rw [hf] at he
      exact covE_snoc.2 (.inl (covE_grow hpn (h.oneE he)))
  · rcases List.mem_append.1 hp with hp | hp
    · exact h.tm p hp
    · rw [List.mem_singleton.1 hp]; exact Int.le_refl _
  · rcases List.mem_append.1 hp with hp | hp
    · rw [frP_grow _ (hpn p hp)]; exact h.szs p hp
    · rw [List.mem_singleton.1 hp, frP_last hs _ hlast]
  · rw [hg]
    rcases List.mem_append.1 hp with hp | hp
    · rw [frP_grow _ (hpn p hp)] at hj
      have := h.bys p hp j hj
      split
      · rfl
      · exact this
    · rw [List.mem_singleton.1 hp, frP_last hs _ hlast] at hj
      rw [if_pos (hin j hj)]
  · rcases List.mem_append.1 hp with hp | hp
    · rw [frP_grow _ (hpn p hp)] at hj
      rcases List.mem_append.1 hq with hq | hq
      · rw [frP_grow _ (hpn q hq)] at hj2
        exact h.dis p hp q hq hpq j hj hj2
      · rw [List.mem_singleton.1 hq, frP_last hs _ hlast] at hj2
        have h1 := h.bys p hp j hj
        have h2 := hin j hj2
        have := Wh.next_20 h.ok ‹X.nextP most 1000 = some pc› j h2.1 h2.2
        omega
    · rw [List.mem_singleton.1 hp, frP_last hs _ hlast] at hj
      rcases List.mem_append.1 hq with hq | hq
      · rw [frP_grow _ (hpn q hq)] at hj2
        have h1 := h.bys q hq j hj2
        have h2 := hin j hj
        have := Wh.next_20 h.ok ‹X.nextP most 1000 = some pc› j h2.1 h2.2
        omega
      · exact hpq (by rw [List.mem_singleton.1 hp, List.mem_singleton.1 hq])
  · rw [hg] at hj
    split at hj
    · cases hj
    · exact h.three j hj
  · rw [ed_frame] at he
    split at he
    · cases he
    · exact h.threeE he
  · rw [List.length_append]; have := h.tp; omega
  · obtain ⟨g, h2, h3⟩ := h.cov i hi
    refine ⟨g, ?_, h3⟩
    rw [List.getElem?_append_left (List.getElem?_eq_some_iff.1 h2).1]
    exact h2
theorem GotF.put (hr : RcL N X.sent R) {off : Nat} {str : ByteArray} {fin : Bool} {g : Fr} (h : GotF R g) (hr2 : RcL N X.sent (R.put off str fin)) : GotF (rdB (R.put off str fin)) g :=
  ⟨fun j hj => hr2.read_mono (hr.put_mono (h.1 j hj)), fun e => by show (R.kn || fin) = true; rw [h.2 e]; rfl⟩
theorem LInv.arrive {off : Nat} {str : ByteArray} {fin : Bool} (h : LInv N lim X K (hs ++ [mkFr 8 off str fin]) R zs n top now) (htop : top ≤ hs.length) {zs' : List Int} {n' : Nat} {few : Int} (hn' : n' ≤ 16) (hfew : few ≤ top)
    (hT : frm.Tg zs' n' ((hs.length : Int) + 1) hs.length now (few + 1)) (hc : ∀ i, frm.covB zs' n' i = true → frm.covB zs n i = true ∨ i = (hs.length : Int)) :
    LInv N lim X K (hs ++ [mkFr 8 off str fin]) (rdB (R.put off str fin)) zs' n' (hs.length + 1) now := by
  obtain ⟨b1, b2, b3, b4⟩ := h.frB (List.mem_append_right _ (List.mem_singleton_self _))
  have hr2 := h.rc.put b1 b2 b3
  obtain ⟨r1, r2⟩ := hr2.read
  refine { h with rc := r1, rdy := r2, three := fun j hj => hr2.read_mono (h.rc.put_mono (h.three j hj)), threeE := fun he => ?_, tk := ?_, n16 := hn', tp := ?_, cov := fun i hi => ?_ }
  · show (R.kn || fin) = true
    rw [h.threeE he]; rfl
  · exact ⟨_, _, _, hT, by omega, by omega, Int.natCast_nonneg _, Int.le_refl _, by omega⟩
  · rw [List.length_append]; exact Nat.le_refl _
  · rcases hc i hi with h1 | h1
    · obtain ⟨g, h2, h3⟩ := h.cov i h1
      exact ⟨g, h2, h3.put h.rc hr2⟩
    · have hi2 : i = hs.length := by omega
      refine ⟨mkFr 8 off str fin, ?_, fun j hj => hr2.read_mono (h.rc.put_new b4 ?_ ?_), fun e => ?_⟩
      · rw [hi2, List.getElem?_append_right (Nat.le_refl _)]; simp
      · have := hj.1
        have e : (mkFr 8 (off : Int) str fin).off.toNat = off := by show (off : Int).toNat = off; omega
        omega
      · have := hj.2
        have e : (mkFr 8 (off : Int) str fin).off.toNat = off := by show (off : Int).toNat = off; omega
        have e2 : (mkFr 8 (off : Int) str fin).s = str := rfl
        rw [e, e2] at this
        exact this
      · show (R.kn || fin) = true
        rw [show fin = true from e, Bool.or_true]
theorem LInv.settle (h : LInv N lim X K hs R zs n top now) {la ll : List frm.Pk} (hS : Stl hs X X' la ll) (hsub : ∀ p ∈ K.l, p ∈ la ∨ p ∈ ll ∨ p ∈ K'.l) (hK : K'.Ok) (hnx : K'.nx = K.nx) (hin : ∀ p ∈ K'.l, p ∈ K.l)
    (hgot : ∀ p ∈ la, GotF R (Go.Proofs.YtpfkeohaaeiaaaaGreatDoor.frP hs p)) (hla : ∀ p, p ∈ la ∨ p ∈ ll → p ∈ K.l) (hdj : ∀ p ∈ K'.l, ∀ q, q ∈ la ∨ q ∈ ll → p.pn ≠ q.pn) : LInv N lim X' K' hs R zs n top now := by
  refine { h with ok := hS.ok, limE := hS.lim.trans h.limE, S := by rw [hS.S]; exact h.S, SN := by rw [hS.S]; exact h.SN, fin := fun e => by rw [hS.S]; exact h.fin (hS.fin ▸ e), vals := fun j => hS.vals j (h.vals j), valsE := hS.valsE h.valsE, edF := fun e => hS.fin.trans (h.edF (hS.nzE e)), ko := hK, nx := hnx.trans h.nx, fro := fun f hf => ⟨hS.fro f (h.fro f hf).1, (h.fro f hf).2⟩, one := fun j hj => ?_, oneE := fun he => ?_, tm := fun p hp => h.tm p (hin p hp), szs := fun p hp => h.szs p (hin p hp), bys := fun p hp j hj => ?_, dis := fun p hp q hq => h.dis p (hin p hp) q (hin q hq), rc := by rw [hS.sent]; exact h.rc, three := fun j hj => ?_, threeE := fun he => ?_ }
  · obtain ⟨a, b, c⟩ := hS.one j hj
    obtain ⟨p, hp, hj2⟩ := h.one j a
    rcases hsub p hp with h2 | h2 | h2
    · exact absurd ⟨p, h2, hj2⟩ b
    · exact absurd ⟨p, h2, hj2⟩ c
    · exact ⟨p, h2, hj2⟩
  · obtain ⟨a, b, c⟩ := hS.oneE he
    obtain ⟨p, hp, hj2⟩ := h.oneE a
    rcases hsub p hp with h2 | h2 | h2
    · exact absurd ⟨p, h2, hj2⟩ b
    · exact absurd ⟨p, h2, hj2⟩ c
    · exact ⟨p, h2, hj2⟩
  · rw [hS.same j (fun ⟨q, hq, hq2⟩ => h.dis p (hin p hp) q (hla q (.inl hq)) (hdj p hp q (.inl hq)) j hj hq2) (fun ⟨q, hq, hq2⟩ => h.dis p (hin p hp) q (hla q (.inr hq)) (hdj p hp q (.inr hq)) j hj hq2)]
    exact h.bys p (hin p hp) j hj
  · rcases hS.three j hj with h2 | ⟨p, hp, h2⟩
    · exact h.three j h2
    · exact (hgot p hp).1 j h2
  · rcases hS.threeE he with h2 | ⟨p, hp, h2⟩
    · exact h.threeE h2
    · exact (hgot p hp).2 h2
theorem LInv.write (h : LInv N lim X K hs R zs n top now) {rest : ByteArray} (hr : bytesOf rest = (streamRow N N).drop X.S.length) :
    LInv N lim (X.write rest) K hs R zs n top now ∧ (X.write rest).S.length = X.S.length + X.writeN rest ∧ X.S.length + X.writeN rest ≤ N := by
  have hrs : rest.size = N - X.S.length := by rw [← bytesOf_length, hr]; simp [streamRow_length]
  have hw := Wh.writeN_le X rest
  have hSN := h.SN
  have hl : (X.write rest).S.length = X.S.length + X.writeN rest := by
    show (X.S ++ (bytesOf rest).take (X.writeN rest)).length = _
    rw [List.length_append, List.length_take, bytesOf_length]; omega
  have hle : X.S.length + X.writeN rest ≤ N := by omega
  have hN0 := h.N0
  have hok : (X.write rest).Ok := h.ok.write rest (by omega)
  have e2 : (X.write rest).sent = X.sent := first_app _ _
  have hlen := h.ok.len
  have hg : ∀ j, gd (X.write rest).T j = if j < X.S.length then gd X.T j else 0 := fun j => by
    show gd (X.T ++ List.replicate (X.writeN rest) 0) j = _
    rw [gd_append, hlen]
    split
    · rfl
    · by_cases c : j - X.S.length < X.writeN rest
      · exact gd_replicate _ _ _ c
      · exact gd_ge (by simp; omega)
  refine ⟨{ h with ok := hok, S := ?_, SN := by rw [hl]; exact hle, fin := fun e => ?_, vals := fun j => ?_, fro := fun f hf => ⟨(h.fro f hf).1.write h.ok rest, (h.fro f hf).2⟩, one := fun j hj => ?_, bys := fun p hp j hj => ?_, rc := by rw [e2]; exact h.rc, three := fun j hj => ?_ }, hl, hle⟩
  · rw [hl]
    show X.S ++ (bytesOf rest).take (X.writeN rest) = _
    rw [hr, List.take_add, ← h.S]
  · rw [hl]; have := h.fin e; omega
  · rw [hg]; split
    · exact h.vals j
    · exact ⟨by decide, by decide⟩
  · rw [hg] at hj
    split at hj
    · exact h.one j hj
    · cases hj
  · have h1 := h.bys p hp j hj
    rw [hg, if_pos]
    · exact h1
    · rcases Nat.lt_or_ge j X.S.length with c | c
      · exact c
      · rw [gd_ge (by omega)] at h1; cases h1
  · rw [hg] at hj
    split at hj
    · exact h.three j hj
    · cases hj
theorem LInv.finish (h : LInv N lim X K hs R zs n top now) (hN : X.S.length = N) : LInv N lim { X with fin := true } K hs R zs n top now :=
  { h with ok := h.ok.finish, fin := fun _ => hN, edF := fun _ => rfl, fro := fun f hf => ⟨(h.fro f hf).1.finish, (h.fro f hf).2⟩ }
theorem hg_rep (m k : Nat) : rea.hg (List.replicate m false) k = false := by
  unfold rea.hg
  rw [List.getElem?_replicate]
  split <;> rfl
theorem LInv.start (N lim : Nat) (l1 : 1 ≤ lim) (l2 : lim ≤ 100) (N0 : N ≤ 1000) (hzs : frm.Tg zs 0 0 (-1) 0 0) : LInv N lim (newX lim) ⟨[], 0, -1⟩ [] ⟨0, List.replicate 600 0, List.replicate 600 false, 0, 0, false⟩ zs 0 0 0 := by
  have g0 : ∀ j, gd (newX lim).T j = 0 := fun j => rfl
  have e0 : (newX lim).ed = 0 := rfl
  exact {
    ok := newX_ok _ (by omega) (by omega), limE := rfl, l1 := l1, l2 := l2, N0 := N0, S := rfl, SN := Nat.zero_le _
    fin := fun e => by cases e
    vals := fun j => by rw [g0]; exact ⟨by decide, by decide⟩
    valsE := by rw [e0]; exact ⟨by decide, by decide⟩
    edF := fun e => absurd e0 e
    ko := ⟨⟨by simp, by simp, by simp⟩, by decide, by decide, by decide, by decide, by decide, by simp⟩
    nx := rfl
    fro := fun f hf => by cases hf
    one := fun j hj => by rw [g0] at hj; cases hj
    oneE := fun e => by rw [e0] at e; cases e
    tm := fun p hp => by cases hp
    szs := fun p hp => by cases hp
    bys := fun p hp => by cases hp
    dis := fun p hp => by cases hp
    rc := ⟨List.length_replicate, List.length_replicate, fun k hk e => (by rw [show rea.hg _ k = false from hg_rep 600 k] at e; cases e), Nat.zero_le _, Int.le_refl _, Nat.zero_le _, fun e => (by cases e)⟩
    rdy := hg_rep 600 0
    three := fun j hj => by rw [g0] at hj; cases hj
    threeE := fun e => by rw [e0] at e; cases e
    tk := ⟨-1, 0, 0, hzs, by decide, by decide, by decide, by decide, by decide⟩
    n16 := by decide
    tp := Nat.le_refl _
    cov := fun i hi => by
      obtain ⟨k, hk, _⟩ := frm.covB_iff.1 hi
      omega }
/-- what was read -/
structure GotOk (N : Nat) (R : rea.Rb) (got : ByteArray) (en : Bool) : Prop where
  g : bytesOf got = (streamRow N N).take R.at_
  e : en = (R.kn && decide (R.at_ = N))
theorem GotOk.start (N : Nat) (bs : List Int) (hs : List Bool) (x y : Int) : GotOk N ⟨0, bs, hs, x, y, false⟩ ⟨#[]⟩ false := ⟨rfl, rfl⟩
theorem GotOk.arrive {s : Nat} {got : ByteArray} {en : Bool} (h : GotOk N R got en) (_hr : RcL N s R) {off : Nat} {str : ByteArray} {fin : Bool} (hr2 : RcL N s (R.put off str fin)) {m : Nat} (hm : m = rea.readyF (R.put off str fin).hs) :
    GotOk N (rdB (R.put off str fin)) (got ++ strOfNums ((R.put off str fin).bs.take m)) (en || ((R.put off str fin).kn && decide ((((R.put off str fin).at_ + m : Nat) : Int) = (R.put off str fin).fin))) := by
  subst hm
  have hb := hr2.bytes
  obtain ⟨r1, r2⟩ := hr2.ready
  refine ⟨?_, ?_⟩
  · rw [bytesOf_append, hb, bytes_str _ (fun x hx => streamRow_byte N N x (List.mem_of_mem_drop (List.mem_of_mem_take hx))), h.g]
    show _ = (streamRow N N).take ((R.put off str fin).at_ + _)
    rw [List.take_add]; rfl
  · show _ = ((R.put off str fin).kn && decide ((R.put off str fin).at_ + rea.readyF (R.put off str fin).hs = N))
    have hs := hr2.sN
    rw [h.e]
    cases hk : (R.put off str fin).kn with
    | false =>
      have : (R.kn || fin) = false := hk
      rw [Bool.or_eq_false_iff] at this
      rw [this.1]; rfl
    | true =>
      have hf := hr2.kN hk
      rw [hf]
      have ea : (R.put off str fin).at_ = R.at_ := rfl
      rw [ea] at r1 ⊢
      cases hk1 : R.kn with
      | false => simp only [Bool.false_and, Bool.false_or, Bool.true_and]; exact decide_eq_decide.2 (by omega)
      | true =>
        simp only [Bool.true_and]
        by_cases c : R.at_ + rea.readyF (R.put off str fin).hs = N
        · rw [decide_eq_true (show ((R.at_ + rea.readyF (R.put off str fin).hs : Nat) : Int) = (N : Int) by omega), decide_eq_true c, Bool.or_true]
        · rw [decide_eq_false (show ¬ ((R.at_ + rea.readyF (R.put off str fin).hs : Nat) : Int) = (N : Int) by omega), decide_eq_false c, decide_eq_false (show ¬ R.at_ = N by omega)]; rfl
end
end Go.Proofs.YtpfkeohaaeiaaaaGreatDoor
/- SendBufReliable: plain laws: progress. -/
namespace Go.Proofs.YtpfkeohaaeiaaaaGreatDoor
open Go.RowKit
/-- what one step does, seen from outside; z: nothing is lost in it -/
structure StF (z : Bool) (X X' : Wh) (K K' : frm.Rc) (pc : Option (Nat × Nat)) (now : Nat) (idle idle' : Nat) : Prop where
  S : X'.S = X.S
  fin : X'.fin = X.fin
  keep : ∀ j, gd X.T j = 3 → gd X'.T j = 3
  keepE : X.ed = 3 → X'.ed = 3
  idl : idle' ≤ 10
  none : pc = none → z = true → (∀ p ∈ K'.l, p ∈ K.l) ∧ K.lg ≤ K'.lg ∧ (idle' = idle + 1 ∨ K'.l = [])
  some : ∀ a t, pc = some (a, t) → z = true → (∀ p ∈ K'.l, p ∈ K.l) ∧ K.nx ≤ K'.lg ∧ (∀ j, a ≤ j → j < t → gd X'.T j = 3) ∧ (X.finT t = true → X'.ed = 3)
  left : ∀ p ∈ K'.l, ¬ (p.pn < K'.lg ∧ p.time ≤ (now : Int) - 8)
/-- how much was acknowledged -/
def cnt3 (N : Nat) (X : Wh) : Nat := (List.range N).countP fun j => decide (gd X.T j = 3)
def mu (N : Nat) (X : Wh) : Nat := cnt3 N X + (if X.ed = 3 then 1 else 0)
theorem cnt3_le (N : Nat) (X : Wh) : cnt3 N X ≤ N := by
  have := List.countP_le_length (p := fun j => decide (gd X.T j = 3)) (l := List.range N)
  unfold cnt3
  simpa using this
theorem mu_le (N : Nat) (X : Wh) : mu N X ≤ N + 1 := by
  have := cnt3_le N X
  unfold mu; split <;> omega
theorem cnt3_mono {N : Nat} {X X' : Wh} (h : ∀ j, gd X.T j = 3 → gd X'.T j = 3) : cnt3 N X ≤ cnt3 N X' := by
  unfold cnt3
  exact List.countP_mono_left (fun j _ hj => by simpa using h j (by simpa using hj))
theorem cnt_lt (p q : Nat → Bool) (h : ∀ j, p j = true → q j = true) (k : Nat) (hp : p k = false) (hq : q k = true) : ∀ n, k < n → (List.range n).countP p + 1 ≤ (List.range n).countP q := by
  intro n
  induction n with
  | zero => intro h; omega
  | succ n ih =>
    intro hk
    rw [List.range_succ, List.countP_append, List.countP_append]
    by_cases e : k = n
    · subst e
      have h1 : (List.range k).countP p ≤ (List.range k).countP q := List.countP_mono_left (fun j _ hj => h j hj)
      simp [hp, hq]; omega
    · have h1 := ih (by omega)
      have h2 : [n].countP p ≤ [n].countP q := List.countP_mono_left (fun j _ hj => h j hj)
      omega
theorem cnt3_lt {N : Nat} {X X' : Wh} (h : ∀ j, gd X.T j = 3 → gd X'.T j = 3) {k : Nat} (hk : k < N) (h1 : gd X.T k ≠ 3) (h2 : gd X'.T k = 3) : cnt3 N X + 1 ≤ cnt3 N X' :=
  cnt_lt _ _ (fun j hj => by simpa using h j (by simpa using hj)) k (by simpa using h1) (by simpa using h2) N hk
theorem edI_mono {X X' : Wh} (h : X.ed = 3 → X'.ed = 3) : (if X.ed = 3 then 1 else 0) ≤ (if X'.ed = 3 then 1 else 0) := by
  by_cases c : X.ed = 3
  · rw [if_pos c, if_pos (h c)]; decide
  · rw [if_neg c]; exact Nat.zero_le _
theorem mu_mono {N : Nat} {X X' : Wh} (h : ∀ j, gd X.T j = 3 → gd X'.T j = 3) (he : X.ed = 3 → X'.ed = 3) : mu N X ≤ mu N X' :=
  Nat.add_le_add (cnt3_mono h) (edI_mono he)
section
variable {N lim : Nat} {X X' : Wh} {K K' : frm.Rc} {hs : List Fr} {R : rea.Rb} {zs : List Int} {n top now : Nat}
/-- behind Write and Finish: everything is written, or the buffer is full -/
def Wrt (_N lim : Nat) (X : Wh) : Prop := X.fin = true ∨ X.S.length = X.u + lim
/-- nothing is outstanding: there is something to send -/
theorem LInv.go (h : LInv N lim X K hs R zs n top now) (hK : K.l = []) (hd : X.done = false) (hw : Wrt N lim X) {most : Int} (h0 : 1 ≤ most) : ∃ pc, X.nextP most 1000 = some pc := by
  cases hp : X.nextP most 1000 with
  | some pc => exact ⟨pc, rfl⟩
  | none =>
    exfalso
    unfold Wh.nextP at hp
    rw [if_neg (by omega)] at hp
    have hlen := h.ok.len
    by_cases c2 : first 2 X.T < X.T.length
    · rw [if_pos ⟨by omega, c2⟩] at hp; cases hp
    · rw [if_neg (fun hc => c2 hc.2)] at hp
      have f2 := first_le 2 X.T
      by_cases cs : X.sent < X.S.length
      · rw [if_pos ⟨cs, by omega, by decide⟩] at hp; cases hp
      · rw [if_neg (fun hc => cs hc.1)] at hp
        have hs := X.sent_le
        have es : X.sent = X.S.length := by omega
        have all3 : ∀ j, j < X.T.length → gd X.T j = 3 := fun j hj => by
          have v := h.vals j
          have n0 := X.below_sent (show j < X.sent by omega)
          have n2 := first_lt 2 X.T j (by omega)
          have n1 : gd X.T j ≠ 1 := fun e => by
            obtain ⟨p, hp, _⟩ := h.one j e
            rw [hK] at hp; cases hp
          omega
        have hu : X.u = X.S.length := by
          rw [← hlen]
          exact lead_is (Nat.le_refl _) all3 (fun hc => absurd hc (Nat.lt_irrefl _))
        have hfin : X.fin = true := by
          rcases hw with hw | hw
          · exact hw
          · have := h.l1; omega
        have hop : X.opn = false := by
          cases ho : X.opn with
          | false => rfl
          | true => rw [if_pos ⟨es, ho⟩] at hp; cases hp
        have n1 : X.ed ≠ 1 := fun e => by
          obtain ⟨p, hp, _⟩ := h.oneE e
          rw [hK] at hp; cases hp
        have v := h.valsE
        unfold Wh.opn at hop
        rw [hfin] at hop
        simp only [Bool.true_and, Bool.or_eq_false_iff, decide_eq_false_iff_not] at hop
        have e3 : X.ed = 3 := by omega
        unfold Wh.done at hd
        rw [hfin, e3, hu] at hd
        simp at hd
/-- the measure grows -/
theorem LInv.grows (h : LInv N lim X K hs R zs n top now) {most : Int} {pc : Nat × Nat} (hp : X.nextP most 1000 = some pc) (h0 : 0 ≤ most) (h1 : most ≤ 100) {idle idle' now' : Nat} (hF : StF true X X' K K' (some pc) now' idle idle') : mu N X + 1 ≤ mu N X' := by
  obtain ⟨s, fin, e, e1, e2, e3, e4, _⟩ := h.next hp h0 h1
  obtain ⟨_, _, s3, s4⟩ := hF.some pc.1 pc.2 rfl rfl
  have hP := Wh.nextP_piece h.ok hp
  have := hP.t; have := hP.ft; have := h.SN
  rcases Nat.lt_or_ge pc.1 pc.2 with c | c
  · have h2 := Wh.next_not3 h.ok hp pc.1 (Nat.le_refl _) c
    have h3 := s3 pc.1 (Nat.le_refl _) c
    have h4 := cnt3_lt (N := N) hF.keep (by omega) h2 h3
    have h5 := edI_mono hF.keepE
    unfold mu; omega
  · have hf : X.finT pc.2 = true := by rw [← e4]; exact e3 (by omega)
    have h2 := s4 hf
    have h3 := (finT_opn hf).2.2
    have h4 := cnt3_mono (N := N) hF.keep
    unfold mu
    rw [if_neg (by omega), if_pos h2]; omega
/-- how far things are at the head of round i -/
structure Prg (N : Nat) (X : Wh) (K : frm.Rc) (i idle : Nat) : Prop where
  idl : idle ≤ 10
  tm : 120 ≤ i → ∀ p ∈ K.l, p.time ≤ 120
  ph : 120 ≤ i → K.l = [] ∨ ((∀ p ∈ K.l, p.pn < K.lg) ∧ i < 128) ∨ i ≤ 120 + idle
  me : 131 ≤ i → K.l = [] ∧ i ≤ 131 + mu N X
theorem Prg.start (N : Nat) (X : Wh) (K : frm.Rc) : Prg N X K 0 0 := ⟨by decide, fun h => by omega, fun h => by omega, fun h => by omega⟩
theorem Prg.mono {i idle : Nat} (h : Prg N X K i idle) (hm : mu N X ≤ mu N X') : Prg N X' K i idle := ⟨h.idl, h.tm, h.ph, fun hi => ⟨(h.me hi).1, by have := (h.me hi).2; omega⟩⟩
theorem Prg.bound {i idle : Nat} (h : Prg N X K i idle) : i ≤ 132 + N := by
  have := mu_le N X
  rcases Nat.lt_or_ge i 131 with h1 | h1
  · omega
  · have := (h.me h1).2; omega
theorem Prg.step {i idle idle' : Nat} (h : Prg N X K i idle) (hI : LInv N lim X K hs R zs n top i) (hd : X.done = false) (hw : Wrt N lim X) {most : Int} (h0 : 1 ≤ most) (h1 : most ≤ 100) {z : Bool} (hz : 120 ≤ i → z = true)
    (hF : StF z X X' K K' (X.nextP most 1000) (i + 1) idle idle') (htm : ∀ p ∈ K'.l, p.time ≤ ((i + 1 : Nat) : Int)) : Prg N X' K' (i + 1) idle' := by
  have sub : 120 ≤ i → ∀ p ∈ K'.l, p ∈ K.l := fun hi => by
    cases hp : X.nextP most 1000 with
    | none => exact (hF.none hp (hz hi)).1
    | some pc => exact (hF.some pc.1 pc.2 hp (hz hi)).1
  have key : 120 ≤ i → K'.l = [] ∨ ((∀ p ∈ K'.l, p.pn < K'.lg) ∧ i + 1 < 128) ∨ i + 1 ≤ 120 + idle' := fun hi => by
    have hnil : (∀ p ∈ K'.l, p.pn < K'.lg) → ¬ i + 1 < 128 → K'.l = [] := fun hG hi2 => by
      refine List.eq_nil_iff_forall_not_mem.2 (fun p hp => ?_)
      have := h.tm hi p (sub hi p hp)
      exact hF.left p hp ⟨hG p hp, by omega⟩
    cases hp : X.nextP most 1000 with
    | some pc =>
      obtain ⟨s1, s2, _, _⟩ := hF.some pc.1 pc.2 hp (hz hi)
      have hG : ∀ p ∈ K'.l, p.pn < K'.lg := fun p hp => by
        have := (hI.ko.up.bnd p (s1 p hp)).2
        omega
      by_cases hi2 : i + 1 < 128
      · exact .inr (.inl ⟨hG, hi2⟩)
      · exact .inl (hnil hG hi2)
    | none =>
      obtain ⟨s1, s2, s3⟩ := hF.none hp (hz hi)
      rcases s3 with s3 | s3
      · rcases h.ph hi with h2 | ⟨h2, h3⟩ | h2
        · refine .inl (List.eq_nil_iff_forall_not_mem.2 (fun p hp => ?_))
          have := s1 p hp
          rw [h2] at this; cases this
        · have hG : ∀ p ∈ K'.l, p.pn < K'.lg := fun p hp => by
            have := h2 p (s1 p hp)
            omega
          by_cases hi2 : i + 1 < 128
          · exact .inr (.inl ⟨hG, hi2⟩)
          · exact .inl (hnil hG hi2)
        · exact .inr (.inr (by omega))
      · exact .inl s3
  refine ⟨hF.idl, fun hi p hp => ?_, fun hi => ?_, fun hi => ?_⟩
  · rcases Nat.lt_or_ge i 120 with c | c
    · have := htm p hp; omega
    · exact h.tm c p (sub c p hp)
  · rcases Nat.lt_or_ge i 120 with c | c
    · exact .inr (.inr (by omega))
    · exact key c
  · rcases Nat.lt_or_ge i 131 with c | c
    · have hid := hF.idl
      have hn : K'.l = [] := by
        rcases key (by omega) with k | ⟨_, k⟩ | k
        · exact k
        · omega
        · omega
      exact ⟨hn, by omega⟩
    · obtain ⟨m1, m2⟩ := h.me c
      have hn : K'.l = [] := by
        refine List.eq_nil_iff_forall_not_mem.2 (fun p hp => ?_)
        have := sub (by omega) p hp
        rw [m1] at this; cases this
      obtain ⟨pc, hp⟩ := hI.go m1 hd hw h0
      have hz2 := hz (by omega)
      subst hz2
      rw [hp] at hF
      have := hI.grows hp (by omega) h1 hF
      exact ⟨hn, by omega⟩
/-- Write and Finish leave what was not done undone -/
theorem LInv.written (h : LInv N lim X K hs R zs n top now) (hd : X.done = false) {rest : ByteArray} (hr : bytesOf rest = (streamRow N N).drop X.S.length) :
    mu N X ≤ mu N (X.write rest) ∧ (X.write rest).done = false ∧ ({ X.write rest with fin := true } : Wh).done = false ∧ (X.fin = false → (X.write rest).S.length = N ∨ Wrt N lim (X.write rest)) ∧ ((X.write rest).fin = X.fin) := by
  obtain ⟨h1, h2, h3⟩ := h.write hr
  have hlen := h.ok.len
  have hg : ∀ j, gd X.T j = 3 → gd (X.write rest).T j = 3 := fun j hj => by
    show gd (X.T ++ List.replicate (X.writeN rest) 0) j = 3
    rw [gd_append]
    split
    · exact hj
    · rw [gd_ge (by omega)] at hj; cases hj
  have hu : (X.write rest).u = X.u := lead_app _ _
  have hrs : rest.size = N - X.S.length := by rw [← bytesOf_length, hr]; simp [streamRow_length]
  have hk : X.ed = 3 → (X.write rest).S.length = X.S.length ∧ X.fin = true := fun e => by
    have hf := h.edF (by omega)
    have := h.fin hf
    exact ⟨by omega, hf⟩
  have hcap := h.ok.cap
  have hul := X.u_le
  refine ⟨mu_mono hg id, ?_, ?_, fun hf => ?_, rfl⟩
  · unfold Wh.done at *
    rw [hu]
    by_cases e : X.ed = 3
    · rw [(hk e).1]; exact hd
    · rw [show (X.write rest).ed = X.ed from rfl, decide_eq_false e, Bool.and_false]
  · unfold Wh.done at *
    show (true && decide ((X.write rest).u = (X.write rest).S.length) && decide (X.ed = 3)) = false
    rw [hu]
    by_cases e : X.ed = 3
    · rw [(hk e).1]; rw [(hk e).2] at hd; exact hd
    · rw [decide_eq_false e, Bool.and_false]
  · unfold Wrt
    rw [hu, h2]
    have hl := h.limE
    have : X.writeN rest = min rest.size (X.lim - (X.S.length - X.u)).toNat := by unfold Wh.writeN Wh.space; rw [hf]; rfl
    by_cases c : X.S.length + X.writeN rest = N
    · exact .inl c
    · exact .inr (.inr (by omega))
/-- the end -/
theorem LInv.whole (h : LInv N lim X K hs R zs n top now) (hd : X.done = true) {got : ByteArray} {en : Bool} (hG : GotOk N R got en) : got = strOfNums (streamRow N N) ∧ en = true := by
  unfold Wh.done at hd
  simp only [Bool.and_eq_true, decide_eq_true_eq] at hd
  obtain ⟨⟨d1, d2⟩, d3⟩ := hd
  have h1 := h.u_at
  have h2 := h.fin d1
  have h3 := h.rc.ats
  have h4 := h.rc.sN
  have hat : R.at_ = N := by omega
  refine ⟨bytesOf_inj ?_, ?_⟩
  · rw [hG.g, hat, stream_bytes, List.take_of_length_le (by simp [streamRow_length])]
  · rw [hG.e, h.threeE d3, decide_eq_true hat]; rfl
theorem GotOk.pre {got : ByteArray} {en : Bool} (h : GotOk N R got en) (hN : R.at_ ≤ N) : got.size = R.at_ ∧ (strOfNums (streamRow N N)).extract 0 R.at_ = got ∧ (en = true → got = strOfNums (streamRow N N)) := by
  have hs : got.size = R.at_ := by
    rw [← bytesOf_length, h.g]
    simp [streamRow_length]; omega
  refine ⟨hs, bytesOf_inj ?_, fun e => bytesOf_inj ?_⟩
  · rw [bytesOf_extract, stream_bytes, h.g]; rfl
  · rw [h.e, Bool.and_eq_true, decide_eq_true_eq] at e
    rw [h.g, e.2, stream_bytes, List.take_of_length_le (by simp [streamRow_length])]
end
end Go.Proofs.YtpfkeohaaeiaaaaGreatDoor
/- SendBufReliable: a send buffer and other blocks, all of the call's own; what lies in them is a function of their numbers. -/
namespace Go.Proofs.YtpfkeohaaeiaaaaGreatDoor
open Go.RowKit
set_option maxRecDepth 100000
structure Wn (W w : World) (b : Nat) (F : Nat → Prop) (X : Wh) (H : Nat → Option Obj) : Prop where
  inv : Inv w b F X.buf
  ok : X.Ok
  own : ∀ k, F k → W.heap.size ≤ k ∧ k < w.heap.size
  below : Below W.heap.size W w
  far : ∀ k o, H k = some o → w.heap[k]? = some o ∧ ¬ F k ∧ W.heap.size ≤ k
def upd (H : Nat → Option Obj) (k : Nat) (o : Obj) : Nat → Option Obj := fun j => if j = k then some o else H j
theorem upd_same (H : Nat → Option Obj) (k : Nat) (o : Obj) : upd H k o k = some o := if_pos rfl
theorem upd_other (H : Nat → Option Obj) {k j : Nat} (o : Obj) (h : j ≠ k) : upd H k o j = H j := if_neg h
theorem upd_of {H : Nat → Option Obj} {k j : Nat} {o o0 o1 : Obj} (hj : H j = some o1) (hk : H k = some o0) (hne : o1 ≠ o0) : upd H k o j = some o1 := by
  rw [upd_other]
  · exact hj
  · rintro rfl
    rw [hj] at hk; cases hk; exact hne rfl
theorem upd_fresh {H : Nat → Option Obj} {k j : Nat} {o o1 : Obj} (hj : H j = some o1) (hk : H k = none) : upd H k o j = some o1 := by
  rw [upd_other]
  · exact hj
  · rintro rfl
    rw [hj] at hk; cases hk
section
variable {W w w' : World} {b : Nat} {F : Nat → Prop} {X X' : Wh} {H H' : Nat → Option Obj}
theorem Wn.at (h : Wn W w b F X H) {k : Nat} {o : Obj} (hk : H k = some o) : w.heap[k]? = some o := (h.far k o hk).1
theorem Wn.lt (h : Wn W w b F X H) {k : Nat} {o : Obj} (hk : H k = some o) : k < w.heap.size := heap_lt (h.at hk)
theorem Wn.fresh (h : Wn W w b F X H) {k : Nat} (hk : w.heap.size ≤ k) : H k = none := by
  cases e : H k with
  | none => rfl
  | some o => have := h.lt e; omega
theorem Wn.step (h : Wn W w b F X H) (hc : Chg F w w') (hi : Inv w' b (Ext F w w') X'.buf) (ho : X'.Ok) : Wn W w' b (Ext F w w') X' H := by
  have hs := hc.size
  have hbs := h.below.size
  refine ⟨hi, ho, fun k hk => ?_, hc.toBelow h.below (fun k hk => (h.own k hk).1), fun k o hp => ⟨hc.heap (h.far k o hp).1 (h.far k o hp).2.1, fun hk => ?_, (h.far k o hp).2.2⟩⟩
  · rcases hk with hk | hk
    · have := h.own k hk; exact ⟨this.1, by omega⟩
    · exact ⟨by omega, hk.2⟩
  · rcases hk with hk | hk
    · exact (h.far k o hp).2.1 hk
    · exact Nat.not_le.2 (h.lt hp) hk.1
theorem Wn.same (h : Wn W w b F X H) (hb : Below w.heap.size w w') : Wn W w' b F X H :=
  ⟨h.inv.below hb, h.ok, fun k hk => ⟨(h.own k hk).1, Nat.lt_of_lt_of_le (h.own k hk).2 hb.size⟩, h.below.trans (hb.mono h.below.size), fun k o hp => ⟨heap_below hb (h.far k o hp).1, (h.far k o hp).2⟩⟩
theorem Wn.drewN (h : Wn W w b F X H) (n : Nat) : Wn W (w.drewN n) b F X H := h.same (belowN (Below.refl _ w) n)
theorem Wn.drew (h : Wn W w b F X H) : Wn W w.drew b F X H := h.same (Below.refl _ w).drew
/-- blocks beside the buffer turn, others come -/
theorem Wn.chg {P : Nat → Prop} (h : Wn W w b F X H) (hc : Chg P w w') (hP : ∀ k, P k → ∃ o, H k = some o) (hH : ∀ k o, H' k = some o → (¬ P k ∧ H k = some o) ∨ (w'.heap[k]? = some o ∧ ((∃ o', H k = some o') ∨ w.heap.size ≤ k))) : Wn W w' b F X H' := by
  have hs := hc.size
  have hbs := h.below.size
  refine ⟨h.inv.chg hc (fun k hk e => ?_), h.ok, fun k hk => ⟨(h.own k hk).1, Nat.lt_of_lt_of_le (h.own k hk).2 hs⟩, hc.toBelow h.below (fun k e => ?_), fun k o hk => ?_⟩
  · obtain ⟨o, ho⟩ := hP k e
    exact (h.far k o ho).2.1 hk
  · obtain ⟨o, ho⟩ := hP k e
    exact (h.far k o ho).2.2
  · rcases hH k o hk with ⟨h1, h2⟩ | ⟨h1, ⟨o', h2⟩ | h2⟩
    · exact ⟨hc.heap (h.at h2) h1, (h.far k o h2).2⟩
    · exact ⟨h1, (h.far k o' h2).2⟩
    · exact ⟨h1, fun hf => by have := (h.own k hf).2; omega, by omega⟩
theorem Wn.sub (h : Wn W w b F X H) (hs : ∀ k o, H' k = some o → H k = some o) : Wn W w b F X H' := ⟨h.inv, h.ok, h.own, h.below, fun k o hk => h.far k o (hs k o hk)⟩
/-- a new block -/
theorem Wn.new (h : Wn W w b F X H) (hb : Below w.heap.size w w') {k : Nat} {o : Obj} (hk : w.heap.size ≤ k) (ho : w'.heap[k]? = some o) : Wn W w' b F X (upd H k o) :=
  h.chg (P := fun _ => False) (Chg.below hb) (fun _ e => e.elim) (fun j o' hj => by
    by_cases e : j = k
    · subst e; rw [upd_same] at hj; cases hj; exact .inr ⟨ho, .inr hk⟩
    · rw [upd_other _ _ e] at hj; exact .inl ⟨fun hf => hf, hj⟩)
theorem Wn.alloc (h : Wn W w b F X H) (o : Obj) : Wn W (w.alloc o) b F X (upd H w.heap.size o) := h.new ((Below.refl _ w).alloc (Nat.le_refl _) o) (Nat.le_refl _) (heap_alloc_new w o)
/-- a block turns -/
theorem Wn.turn (h : Wn W w b F X H) {k : Nat} {o o' : Obj} (hk : H k = some o) (hg : w.grownBy w' (some k)) (ho : w'.heap[k]? = some o') : Wn W w' b F X (upd H k o') :=
  h.chg (P := fun j => j = k) (Chg.grown hg rfl) (fun j e => ⟨o, e ▸ hk⟩) (fun j o1 hj => by
    by_cases e : j = k
    · subst e; rw [upd_same] at hj; cases hj; exact .inr ⟨ho, .inl ⟨o, hk⟩⟩
    · rw [upd_other _ _ e] at hj; exact .inl ⟨e, hj⟩)
theorem Wn.set (h : Wn W w b F X H) {k : Nat} {cs : Array Value} {T : TypeId} (hk : H k = some (.cells cs T (0, 0))) (i : Nat) (v : Value) : Wn W (w.setCell ⟨k, i, none⟩ v) b F X (upd H k (.cells (cs.setIfInBounds i v) T (0, 0))) :=
  h.turn hk (grown_set (grown_refl _ _) v) (heap_set v (h.at hk))
/-! the contracts of a send buffer -/
theorem wn_write (h : Wn W w b F X H) (s : ByteArray) (hs : s.size ≤ maxLen) (hf : X.S.length + X.writeN s ≤ 1125899906842624) :
    Calls Tryz.prog 10 #[.pointer (some ⟨b, 0, none⟩), .string s] w fun e w' => e = .returned (.int .i64 (X.writeN s : Int)) ∧ ∃ F', Wn W w' b F' (X.write s) H := by
  have := write_any b F X.buf s w h.inv h.ok.good hs
  refine this.mono fun _ _ hh => ?_
  rw [Wh.writeN_buf h.ok, Wh.write_buf h.ok] at hh
  exact ⟨hh.1, _, h.step hh.2.1 hh.2.2 (h.ok.write s hf)⟩
theorem wn_next (h : Wn W w b F X H) (most credit : Int) :
    Calls Tryz.prog 24 #[.pointer (some ⟨b, 0, none⟩), .int .i64 most, .int .i64 credit] w fun e w' => e = .returned (.tuple #[(X.nextR (X.nextP most credit)).val, .bool (X.nextP most credit).isSome]) ∧ ∃ F', Wn W w' b F' (X.nextX (X.nextP most credit)) H := by
  have := next_any b F X.buf most credit w h.inv h.ok.good
  refine this.mono fun _ _ hh => ?_
  unfold NextPost nextE at hh
  rw [Wh.nextR_buf h.ok, Wh.nextX_buf h.ok, Wh.isSome_buf h.ok] at hh
  exact ⟨hh.1, _, h.step hh.2.1 hh.2.2 (h.ok.next most credit)⟩
theorem wn_lost (h : Wn W w b F X H) (f : Fr) :
    Calls Tryz.prog 25 #[.pointer (some ⟨b, 0, none⟩), f.val] w fun e w' => e = .returned (.int .i64 (X.err f)) ∧ ∃ F', Wn W w' b F' (X.lost f) H := by
  have := lost_any b F X.buf f w h.inv h.ok.good
  refine this.mono fun _ _ hh => ?_
  have h2 := hh.2.2
  have e3 := Wh.err_buf h.ok f
  have e4 := Wh.lost_buf h.ok f
  exact ⟨by rw [← e3]; exact hh.1, _, h.step hh.2.1 (by rw [← e4]; exact h2) (h.ok.lost f)⟩
theorem wn_acked (h : Wn W w b F X H) (f : Fr) :
    Calls Tryz.prog 26 #[.pointer (some ⟨b, 0, none⟩), f.val] w fun e w' => e = .returned (.int .i64 (X.err f)) ∧ ∃ F', Wn W w' b F' (X.acked f) H := by
  have := acked_any b F X.buf f w h.inv h.ok.good
  refine this.mono fun _ _ hh => ?_
  have e3 := Wh.err_buf h.ok f
  have e4 := Wh.acked_buf h.ok f
  exact ⟨by rw [← e3]; exact hh.1, _, h.step hh.2.1 (by rw [← e4]; exact hh.2.2) (h.ok.acked f)⟩
theorem wn_done (h : Wn W w b F X H) :
    Calls Tryz.prog 9 #[.pointer (some ⟨b, 0, none⟩)] w fun e w' => e = .returned (.bool X.done) ∧ w = w' :=
  (done_any b F X.buf w h.inv).mono fun _ _ hh => ⟨by
    rw [hh.1]; have h1 := X.u_le; have h4 := h.ok.len
    have : doneF X.buf = X.done := by
      unfold doneF Wh.done
      simp only [Wh.buf, List.length_drop]
      congr 2
      apply decide_eq_decide.2; omega
    rw [this], hh.2.symm⟩
theorem wn_finish (h : Wn W w b F X H) :
    Calls Tryz.prog 11 #[.pointer (some ⟨b, 0, none⟩)] w fun e w' => e = .returned (.tuple #[]) ∧ ∃ F', Wn W w' b F' ({ X with fin := true } : Wh) H :=
  (finish_any b F X.buf w h.inv).mono fun _ _ hh => ⟨hh.1, _, h.step hh.2.1 (hh.2.2.1.ext (fun _k hk => .inl hk)) h.ok.finish⟩
theorem wn_new (n : Int) (h1 : 1 ≤ n) (h2 : n ≤ 8192) (hb : Below W.heap.size W w) :
    Calls Tryz.prog 23 #[.int .i64 n] w fun e w' => e = .returned (.tuple #[.pointer (some ⟨w.heap.size, 0, none⟩), .int .i64 0]) ∧ Wn W w' w.heap.size (fun k => k = w.heap.size) (newX n) (fun _ => none) :=
  (new_ok n w h1 h2).mono (fun e w' hh => ⟨hh.1, by
    rw [hh.2]
    have := st_new n W w hb
    exact ⟨this.inv, newX_ok n h1 h2, this.own, this.below, (fun k o hk => by cases hk)⟩⟩)
end
/-! a slice of one frame, a row of packets -/
def FrIn (H : Nat → Option Obj) (v : Value) (f : Fr) : Prop := ∃ (g c : Nat) (cur : Array Value), v = .slice (some ⟨g, 0, none⟩) 1 c ∧ 1 ≤ c ∧ H g = some (.cells cur 56 (0, 0)) ∧ ∀ (j : Nat) (u : Value), f.cells.toList[j]? = some u → cur[j]? = some u
theorem FrIn.upd {H : Nat → Option Obj} {v : Value} {f : Fr} (h : FrIn H v f) {k : Nat} (o : Obj) (hk : ∀ cur, H k ≠ some (.cells cur 56 (0, 0))) : FrIn (upd H k o) v f := by
  obtain ⟨g, c, cur, h1, h2, h3, h4⟩ := h
  exact ⟨g, c, cur, h1, h2, by
    rw [upd_other]
    · exact h3
    · rintro rfl; exact hk cur h3, h4⟩
/-- H' holds what H held, but for block lb and rows of packets -/
def Keeps (lb : Nat) (H H' : Nat → Option Obj) : Prop := ∀ k o, H k = some o → k ≠ lb → (∀ cur, o ≠ .cells cur 49 (0, 0)) → H' k = some o
theorem Keeps.refl (lb : Nat) (H : Nat → Option Obj) : Keeps lb H H := fun _ _ h _ _ => h
theorem Keeps.trans {lb : Nat} {H H' H'' : Nat → Option Obj} (h : Keeps lb H H') (k : Keeps lb H' H'') : Keeps lb H H'' := fun i o h1 h2 h3 => k i o (h i o h1 h2 h3) h2 h3
theorem FrIn.keeps {lb : Nat} {H H' : Nat → Option Obj} {v : Value} {f : Fr} (h : FrIn H v f) (hk : Keeps lb H H') (hlb : ∀ cur, H lb ≠ some (.cells cur 56 (0, 0))) : FrIn H' v f := by
  obtain ⟨g, c, cur, h1, h2, h3, h4⟩ := h
  exact ⟨g, c, cur, h1, h2, hk g _ h3 (by rintro rfl; exact hlb cur h3) (fun cur' e => by cases e), h4⟩
/-- a row of packets of the call's own -/
def RowIn (H : Nat → Option Obj) (v : Value) (l : List frm.Pk) : Prop :=
  (v = .slice none 0 0 ∧ l = []) ∨ ∃ (g cap : Nat) (cur : Array Value), v = .slice (some ⟨g, 0, none⟩) l.length cap ∧ l.length ≤ cap ∧ cap ≤ maxLen ∧ cur.size = cap * 5 ∧ cur.toList.take (l.length * 5) = frm.pcs l ∧ H g = some (.cells cur 49 (0, 0))
theorem RowIn.nil (H : Nat → Option Obj) : RowIn H (.slice none 0 0) [] := .inl ⟨rfl, rfl⟩
theorem RowIn.upd {H : Nat → Option Obj} {v : Value} {l : List frm.Pk} (h : RowIn H v l) {k : Nat} (o : Obj) (hk : ∀ g, v.ownBlock = some g → g ≠ k) : RowIn (upd H k o) v l := by
  rcases h with h | ⟨g, cap, cur, h1, h2, h3, h4, h5, h6⟩
  · exact .inl h
  · exact .inr ⟨g, cap, cur, h1, h2, h3, h4, h5, by rw [upd_other _ _ (hk g (by rw [h1]; rfl))]; exact h6⟩
theorem RowIn.own {W w : World} {b : Nat} {F : Nat → Prop} {X : Wh} {H : Nat → Option Obj} {v : Value} {l : List frm.Pk} (h : RowIn H v l) (hw : Wn W w b F X H) : w.ownsRow W.heap.size 49 5 v l.length (frm.pcs l) := by
  refine ⟨by rw [frm.pcs_length], ?_⟩
  rcases h with ⟨h1, h2⟩ | ⟨g, cap, cur, h1, h2, h3, h4, h5, h6⟩
  · subst h2; exact .inl ⟨h1, rfl⟩
  · exact .inr ⟨g, cap, cur, h1, (hw.far g _ h6).2.2, hw.at h6, h2, h3, h4, h5⟩
theorem RowIn.block {W w : World} {b : Nat} {F : Nat → Prop} {X : Wh} {H : Nat → Option Obj} {v : Value} {l : List frm.Pk} (h : RowIn H v l) (_hw : Wn W w b F X H) {g : Nat} (hg : v.ownBlock = some g) : ∃ cur, H g = some (.cells cur 49 (0, 0)) := by
  rcases h with ⟨h1, h2⟩ | ⟨g', cap, cur, h1, h2, h3, h4, h5, h6⟩
  · subst h1; cases hg
  · subst h1
    have : g' = g := by simpa [Value.ownBlock] using hg
    subst this; exact ⟨cur, h6⟩
/-- a fresh row joins -/
theorem Wn.row {W w w' : World} {b : Nat} {F : Nat → Prop} {X : Wh} {H : Nat → Option Obj} (h : Wn W w b F X H) (hb : Below w.heap.size w w') {v : Value} {l : List frm.Pk} (hr : w'.ownsRow w.heap.size 49 5 v l.length (frm.pcs l)) (hn : v = .slice none 0 0 → l = []) :
    ∃ H', Wn W w' b F X H' ∧ RowIn H' v l ∧ (∀ k o, H k = some o → H' k = some o) ∧ ∀ k, v.ownBlock = some k → H k = none := by
  rcases hr.2 with ⟨e, hz⟩ | ⟨g, cap, cur, rfl, h1, h2, h3, h4, h5, h6⟩
  · exact ⟨H, h.same hb, .inl ⟨e, hn e⟩, fun _ _ hk => hk, fun k hk => by rw [e] at hk; cases hk⟩
  · exact ⟨upd H g (.cells cur 49 (0, 0)), h.new hb h1 h2, .inr ⟨g, cap, cur, rfl, h3, h4, h5, h6, upd_same _ _ _⟩, fun k o hk => upd_fresh hk (h.fresh h1), fun k hk => by
      have : g = k := by simpa [Value.ownBlock] using hk
      subst this; exact h.fresh h1⟩
end Go.Proofs.YtpfkeohaaeiaaaaGreatDoor
