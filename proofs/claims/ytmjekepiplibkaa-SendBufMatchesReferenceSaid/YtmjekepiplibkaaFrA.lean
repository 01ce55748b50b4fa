import Derived.Test.YtmjekepiplibkaaSf
namespace Go.Proofs.Ytmjekepiplibkaa
open Go.RowKit
/-! plain laws for SendBufFrames -/
theorem bytesOf_range (s : ByteArray) : ∀ x ∈ bytesOf s, 0 ≤ x ∧ x ≤ 255 := by
  intro x hx
  unfold bytesOf at hx
  obtain ⟨b, _, rfl⟩ := List.mem_map.1 hx
  have := b.toNat_lt
  omega
theorem bytesOf_inj {s t : ByteArray} (h : bytesOf s = bytesOf t) : s = t := by
  unfold bytesOf at h
  have hi : s.data.toList = t.data.toList := by
    refine List.map_inj_right (f := fun b : UInt8 => (b.toNat : Int)) (fun x y e => ?_) |>.1 h
    have e2 : (x.toNat : Int) = y.toNat := e
    exact UInt8.toNat_inj.1 (by omega)
  cases s; cases t
  simpa using hi
theorem bytesOf_append (s t : ByteArray) : bytesOf (s ++ t) = bytesOf s ++ bytesOf t := by simp [bytesOf, ByteArray.data_append]
theorem bytesOf_extract (s : ByteArray) (a b : Nat) : bytesOf (s.extract a b) = ((bytesOf s).drop a).take (b - a) := by
  simp [bytesOf, ByteArray.data_extract, List.map_take, List.map_drop]
/-- a frame that was sent -/
structure FrOk (X : Wh) (f : Fr) : Prop where
  ty : f.ty = 8
  off : 0 ≤ f.off
  le : f.off.toNat + f.s.size ≤ X.sent
  bytes : bytesOf f.s = (X.S.drop f.off.toNat).take f.s.size
  fin : f.fin = true → X.fin = true ∧ X.ed ≠ 0 ∧ f.off.toNat + f.s.size = X.S.length
  one : f.cells.all (·.oneCell') = true
section
variable {X : Wh} {f : Fr}
theorem FrOk.fits (h : FrOk X f) : X.fits f = true := by
  obtain ⟨ty, off, le, bytes, fin, _⟩ := h
  unfold Wh.fits Wh.head
  simp only [Bool.and_eq_true, decide_eq_true_eq, List.all_eq_true, List.mem_range]
  refine ⟨⟨⟨⟨⟨ty, off⟩, by omega⟩, by omega⟩, fun i hi => ?_⟩, ?_⟩
  · unfold Wh.okAt
    rw [bytes, gd_take _ _ _ hi, gd_drop]
    rw [show (f.off + (i : Int)).toNat = f.off.toNat + i by omega]
    simp
  · unfold Wh.tail
    cases hf : f.fin
    · rfl
    · obtain ⟨a, b, c⟩ := fin hf
      rw [a]
      simp [b]; omega
theorem FrOk.err (h : FrOk X f) : X.err f = 0 := by unfold Wh.err; rw [h.fits]; rfl
theorem FrOk.write (h : FrOk X f) (hx : X.Ok) (s : ByteArray) : FrOk (X.write s) f := by
  obtain ⟨ty, off, le, bytes, fin, one⟩ := h
  have e2 : (X.write s).sent = X.sent := first_app _ _
  have h2 := X.sent_le; have h4 := hx.len
  refine ⟨ty, off, by rw [e2]; exact le, ?_, fun hf => ?_, one⟩
  · rw [bytes]
    show _ = ((X.S ++ _).drop _).take _
    rw [List.drop_append_of_le_length (by omega), List.take_append_of_le_length (by simp only [List.length_drop]; omega)]
  · obtain ⟨a, b, c⟩ := fin hf
    refine ⟨a, b, ?_⟩
    have : X.writeN s = 0 := by unfold Wh.writeN Wh.space; rw [a]; simp
    show _ = (X.S ++ (bytesOf s).take (X.writeN s)).length
    rw [this]; simpa using c
theorem FrOk.frame (h : FrOk X f) (hx : X.Ok) {a t : Nat} (hp : X.Piece a t) : FrOk (X.frame a t) f := by
  obtain ⟨ty, off, le, bytes, fin, one⟩ := h
  have e := (Wh.frame_sent hx hp).1
  refine ⟨ty, off, by rw [e]; omega, bytes, fun hf => ?_, one⟩
  obtain ⟨a1, b1, c1⟩ := fin hf
  refine ⟨a1, ?_, c1⟩
  simp only [Wh.frame]
  split
  · decide
  · exact b1
theorem FrOk.next (h : FrOk X f) (hx : X.Ok) (most credit : Int) : FrOk (X.nextX (X.nextP most credit)) f := by
  cases hp : X.nextP most credit with
  | none => exact h
  | some p => exact h.frame hx (Wh.nextP_piece hx hp)
theorem FrOk.mark (h : FrOk X f) (hx : X.Ok) (A : Bool) {g : Fr} (hg : X.Fit g) : FrOk (Wh.mark A X g) f := by
  obtain ⟨ty, off, le, bytes, fin, one⟩ := h
  have e := (Wh.mark_sent A hx hg).1
  refine ⟨ty, off, by rw [e]; exact le, bytes, fun hf => ?_, one⟩
  obtain ⟨a1, b1, c1⟩ := fin hf
  refine ⟨a1, ?_, c1⟩
  simp only [Wh.mark]
  split
  · exact turn_ne0 A b1
  · exact b1
theorem FrOk.acked (h : FrOk X f) (hx : X.Ok) (g : Fr) : FrOk (X.acked g) f := by
  unfold Wh.acked; split
  · exact h.mark hx true (Wh.fits_fit ‹_›)
  · exact h
theorem FrOk.lost (h : FrOk X f) (hx : X.Ok) (g : Fr) : FrOk (X.lost g) f := by
  unfold Wh.lost; split
  · exact h.mark hx false (Wh.fits_fit ‹_›)
  · exact h
theorem FrOk.finish (h : FrOk X f) : FrOk { X with fin := true } f :=
  ⟨h.ty, h.off, h.le, h.bytes, fun hf => ⟨rfl, (h.fin hf).2.1, (h.fin hf).2.2⟩, h.one⟩
end
/-- what Next's frame is like -/
structure NewFr (X : Wh) (A : ByteArray) (most : Int) (o m : Nat) (s : ByteArray) (fin : Bool) : Prop where
  size : s.size = m
  most : (m : Int) ≤ most
  le : o + m ≤ A.size
  bytes : A.extract o (o + m) = s
  whole : fin = true → X.fin = true ∧ o + m = A.size
  empty : m = 0 → fin = true
theorem next_frame {X : Wh} (hx : X.Ok) {A : ByteArray} (hA : bytesOf A = X.S) {most credit : Int} {p : Nat × Nat} (hp : X.nextP most credit = some p) (hm : 0 ≤ most) :
    ∃ s fin, X.nextR (some p) = mkFr 8 p.1 s fin ∧ NewFr X A most p.1 (p.2 - p.1) s fin ∧ FrOk (X.nextX (some p)) (mkFr 8 p.1 s fin) := by
  have hP := Wh.nextP_piece hx hp
  have hAs : A.size = X.S.length := by rw [← hA, bytesOf_length]
  have hb : bytesOf (strOfNums ((X.S.drop p.1).take (p.2 - p.1))) = (X.S.drop p.1).take (p.2 - p.1) := bytes_str _ (fun x hx => bytesOf_range A x (by rw [hA]; exact List.mem_of_mem_drop (List.mem_of_mem_take hx)))
  have hsz : (strOfNums ((X.S.drop p.1).take (p.2 - p.1))).size = p.2 - p.1 := by
    have := hP.t; have := hP.ft
    rw [strOfNums_size]; simp only [List.length_take, List.length_drop]; omega
  refine ⟨strOfNums ((X.S.drop p.1).take (p.2 - p.1)), X.finT p.2, rfl, ⟨hsz, ?_, ?_, ?_, fun hf => ?_, fun h0 => ?_⟩, ⟨rfl, ?_, ?_, ?_, fun hf => ?_, one35 _ _ _ _⟩⟩
  · unfold Wh.nextP at hp
    split at hp
    · cases hp
    · split at hp
      · cases hp
        have := (runLen_le 2 (X.T.drop (first 2 X.T)) most.toNat).1
        simp only []; omega
      · split at hp
        · cases hp; simp only []; omega
        · split at hp
          · cases hp; simp only []; omega
          · cases hp
  · have := hP.t; have := hP.ft; omega
  · apply bytesOf_inj
    rw [bytesOf_extract, hb, hA]
    congr 1; omega
  · unfold Wh.finT at hf
    simp only [Bool.and_eq_true, decide_eq_true_eq] at hf
    have h1 := hP.ft
    refine ⟨?_, by omega⟩
    have := hf.2
    unfold Wh.opn at this
    simp only [Bool.and_eq_true] at this
    exact this.1
  · unfold Wh.nextP at hp
    split at hp
    · cases hp
    · split at hp
      · rename_i h1
        cases hp
        obtain ⟨m, hm2⟩ : ∃ m, most.toNat = m + 1 := ⟨most.toNat - 1, by omega⟩
        have hr : 1 ≤ runLen 2 (X.T.drop (first 2 X.T)) most.toNat := by
          rw [hm2, List.drop_eq_getElem_cons h1.2]
          have := first_at 2 X.T h1.2
          rw [gd_lt h1.2] at this
          rw [this]; simp [runLen]
        simp only [] at h0; omega
      · split at hp
        · cases hp; simp only [] at h0; omega
        · split at hp
          · rename_i h1
            cases hp
            unfold Wh.finT
            simp only []
            rw [h1.2, decide_eq_true h1.1]; rfl
          · cases hp
  · exact Int.natCast_nonneg _
  · have e := (Wh.frame_sent hx hP).1
    have h1 := hP.ft
    show (p.1 : Int).toNat + _ ≤ (X.frame p.1 p.2).sent
    rw [e]
    show _ + (strOfNums _).size ≤ _
    rw [hsz]; omega
  · show bytesOf (strOfNums _) = (X.S.drop (p.1 : Int).toNat).take (strOfNums _).size
    rw [hb, hsz]
    congr 2
  · have hf' : X.finT p.2 = true := hf
    have h1 := hP.ft
    have hf2 := hf'
    unfold Wh.finT at hf2
    simp only [Bool.and_eq_true, decide_eq_true_eq] at hf2
    refine ⟨?_, ?_, ?_⟩
    · have := hf2.2
      unfold Wh.opn at this
      simp only [Bool.and_eq_true] at this
      exact this.1
    · show (if X.finT p.2 then (1 : Int) else X.ed) ≠ 0
      rw [hf', if_pos rfl]; decide
    · show (p.1 : Int).toNat + (strOfNums _).size = X.S.length
      rw [hsz]; omega
end Go.Proofs.Ytmjekepiplibkaa
