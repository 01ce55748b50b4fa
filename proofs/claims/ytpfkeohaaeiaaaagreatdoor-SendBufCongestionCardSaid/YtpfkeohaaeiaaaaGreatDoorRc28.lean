/- Texts FrA DeA of this claim, one behind the other. -/
import Derived.Test.YtpfkeohaaeiaaaaGreatDoorRc26
namespace Go.Proofs.YtpfkeohaaeiaaaaGreatDoor
open Go.RowKit
set_option maxRecDepth 100000
/-! plain laws for SendBufFrames -/
theorem bytesOf_range (s : ByteArray) : ∀ x ∈ bytesOf s, 0 ≤ x ∧ x ≤ 255 := by
  intro x hx
  unfold bytesOf at hx
  obtain ⟨b, _, rfl⟩ := List.mem_map.1 hx
  have := b.toNat_lt
  omega
theorem bytesOf_inj {s t : ByteArray} (h : bytesOf s = bytesOf t) : s = t := by
  unfold bytesOf at h
  have hi : s.data.toList = t.data.toList := by
    refine List.map_inj_right (f := fun b : UInt8 => (b.toNat : Int)) (fun x y e => ?_) |>.1 h
    have e2 : (x.toNat : Int) = y.toNat := e
    exact UInt8.toNat_inj.1 (by omega)
  cases s; cases t
  simpa using hi
theorem bytesOf_append (s t : ByteArray) : bytesOf (s ++ t) = bytesOf s ++ bytesOf t := by simp [bytesOf, ByteArray.data_append]
theorem bytesOf_extract (s : ByteArray) (a b : Nat) : bytesOf (s.extract a b) = ((bytesOf s).drop a).take (b - a) := by
  simp [bytesOf, ByteArray.data_extract, List.map_take, List.map_drop]
/-- a frame that was sent -/
structure FrOk (X : Wh) (f : Fr) : Prop where
  ty : f.ty = 8
  off : 0 ≤ f.off
  le : f.off.toNat + f.s.size ≤ X.sent
  bytes : bytesOf f.s = (X.S.drop f.off.toNat).take f.s.size
  fin : f.fin = true → X.fin = true ∧ X.ed ≠ 0 ∧ f.off.toNat + f.s.size = X.S.length
  one : f.cells.all (·.oneCell') = true
section
variable {X : Wh} {f : Fr}
theorem FrOk.fits (h : FrOk X f) : X.fits f = true := by
  obtain ⟨ty, off, le, bytes, fin, _⟩ := h
  unfold Wh.fits Wh.head
  simp only [Bool.and_eq_true, decide_eq_true_eq, List.all_eq_true, List.mem_range]
  refine ⟨⟨⟨⟨⟨ty, off⟩, by omega⟩, by omega⟩, fun i hi => ?_⟩, ?_⟩
  · unfold Wh.okAt
    rw [bytes, gd_take _ _ _ hi, gd_drop]
    rw [show (f.off + (i : Int)).toNat = f.off.toNat + i by omega]
    simp
  · unfold Wh.tail
    cases hf : f.fin
    · rfl
    · obtain ⟨a, b, c⟩ := fin hf
      rw [a]
      simp [b]; omega
theorem FrOk.err (h : FrOk X f) : X.err f = 0 := by unfold Wh.err; rw [h.fits]; rfl
theorem FrOk.write (h : FrOk X f) (hx : X.Ok) (s : ByteArray) : FrOk (X.write s) f := by
  obtain ⟨ty, off, le, bytes, fin, one⟩ := h
  have e2 : (X.write s).sent = X.sent := first_app _ _
  have h2 := X.sent_le; have h4 := hx.len
  refine ⟨ty, off, by rw [e2]; exact le, ?_, fun hf => ?_, one⟩
  · rw [bytes]
    show _ = ((X.S ++ _).drop _).take _
    rw [List.drop_append_of_le_length (by omega), List.take_append_of_le_length (by simp only [List.length_drop]; omega)]
  · obtain ⟨a, b, c⟩ := fin hf
    refine ⟨a, b, ?_⟩
    have : X.writeN s = 0 := by unfold Wh.writeN Wh.space; rw [a]; simp
    show _ = (X.S ++ (bytesOf s).take (X.writeN s)).length
    rw [this]; simpa using c
theorem FrOk.frame (h : FrOk X f) (hx : X.Ok) {a t : Nat} (hp : X.Piece a t) : FrOk (X.frame a t) f := by
  obtain ⟨ty, off, le, bytes, fin, one⟩ := h
  have e := (Wh.frame_sent hx hp).1
  refine ⟨ty, off, by rw [e]; omega, bytes, fun hf => ?_, one⟩
  obtain ⟨a1, b1, c1⟩ := fin hf
  refine ⟨a1, ?_, c1⟩
  simp only [Wh.frame]
  split
  · decide
  · exact b1
theorem FrOk.next (h : FrOk X f) (hx : X.Ok) (most credit : Int) : FrOk (X.nextX (X.nextP most credit)) f := by
  cases hp : X.nextP most credit with
  | none => exact h
  | some p => exact h.frame hx (Wh.nextP_piece hx hp)
theorem FrOk.mark (h : FrOk X f) (hx : X.Ok) (A : Bool) {g : Fr} (hg : X.Fit g) : FrOk (Wh.mark A X g) f := by
  obtain ⟨ty, off, le, bytes, fin, one⟩ := h
  have e := (Wh.mark_sent A hx hg).1
  refine ⟨ty, off, by rw [e]; exact le, bytes, fun hf => ?_, one⟩
  obtain ⟨a1, b1, c1⟩ := fin hf
  refine ⟨a1, ?_, c1⟩
  simp only [Wh.mark]
  split
  · exact turn_ne0 A b1
  · exact b1
theorem FrOk.acked (h : FrOk X f) (hx : X.Ok) (g : Fr) : FrOk (X.acked g) f := by
  unfold Wh.acked; split
  · exact h.mark hx true (Wh.fits_fit ‹_›)
  · exact h
theorem FrOk.lost (h : FrOk X f) (hx : X.Ok) (g : Fr) : FrOk (X.lost g) f := by
  unfold Wh.lost; split
  · exact h.mark hx false (Wh.fits_fit ‹_›)
  · exact h
theorem FrOk.finish (h : FrOk X f) : FrOk { X with fin := true } f :=
  ⟨h.ty, h.off, h.le, h.bytes, fun hf => ⟨rfl, (h.fin hf).2.1, (h.fin hf).2.2⟩, h.one⟩
end
/-- what Next's frame is like -/
structure NewFr (X : Wh) (A : ByteArray) (most : Int) (o m : Nat) (s : ByteArray) (fin : Bool) : Prop where
  size : s.size = m
  most : (m : Int) ≤ most
  le : o + m ≤ A.size
  bytes : A.extract o (o + m) = s
  whole : fin = true → X.fin = true ∧ o + m = A.size
  empty : m = 0 → fin = true
theorem next_frame {X : Wh} (hx : X.Ok) {A : ByteArray} (hA : bytesOf A = X.S) {most credit : Int} {p : Nat × Nat} (hp : X.nextP most credit = some p) (hm : 0 ≤ most) :
    ∃ s fin, X.nextR (some p) = mkFr 8 p.1 s fin ∧ NewFr X A most p.1 (p.2 - p.1) s fin ∧ FrOk (X.nextX (some p)) (mkFr 8 p.1 s fin) := by
  have hP := Wh.nextP_piece hx hp
  have hAs : A.size = X.S.length := by rw [← hA, bytesOf_length]
  have hb : bytesOf (strOfNums ((X.S.drop p.1).take (p.2 - p.1))) = (X.S.drop p.1).take (p.2 - p.1) := bytes_str _ (fun x hx => bytesOf_range A x (by rw [hA]; exact List.mem_of_mem_drop (List.mem_of_mem_take hx)))
  have hsz : (strOfNums ((X.S.drop p.1).take (p.2 - p.1))).size = p.2 - p.1 := by
    have := hP.t; have := hP.ft
    rw [strOfNums_size]; simp only [List.length_take, List.length_drop]; omega
  refine ⟨strOfNums ((X.S.drop p.1).take (p.2 - p.1)), X.finT p.2, rfl, ⟨hsz, ?_, ?_, ?_, fun hf => ?_, fun h0 => ?_⟩, ⟨rfl, ?_, ?_, ?_, fun hf => ?_, one35 _ _ _ _⟩⟩
  · unfold Wh.nextP at hp
    split at hp
    · cases hp
    · split at hp
      · cases hp
        have := (runLen_le 2 (X.T.drop (first 2 X.T)) most.toNat).1
        simp only []; omega
      · split at hp
        · cases hp; simp only []; omega
        · split at hp
          · cases hp; simp only []; omega
          · cases hp
  · have := hP.t; have := hP.ft; omega
  · apply bytesOf_inj
    rw [bytesOf_extract, hb, hA]
    congr 1; omega
  · unfold Wh.finT at hf
    simp only [Bool.and_eq_true, decide_eq_true_eq] at hf
    have h1 := hP.ft
    refine ⟨?_, by omega⟩
    have := hf.2
    unfold Wh.opn at this
    simp only [Bool.and_eq_true] at this
    exact this.1
  · unfold Wh.nextP at hp
    split at hp
    · cases hp
    · split at hp
      · rename_i h1
        cases hp
        obtain ⟨m, hm2⟩ : ∃ m, most.toNat = m + 1 := ⟨most.toNat - 1, by omega⟩
        have hr : 1 ≤ runLen 2 (X.T.drop (first 2 X.T)) most.toNat := by
          rw [hm2, List.drop_eq_getElem_cons h1.2]
          have := first_at 2 X.T h1.2
          rw [gd_lt h1.2] at this
          rw [this]; simp [runLen]
        simp only [] at h0; omega
      · split at hp
        · cases hp; simp only [] at h0; omega
        · split at hp
          · rename_i h1
            cases hp
            unfold Wh.finT
            simp only []
            rw [h1.2, decide_eq_true h1.1]; rfl
          · cases hp
  · exact Int.natCast_nonneg _
  · have e := (Wh.frame_sent hx hP).1
    have h1 := hP.ft
    show (p.1 : Int).toNat + _ ≤ (X.frame p.1 p.2).sent
    rw [e]
    show _ + (strOfNums _).size ≤ _
    rw [hsz]; omega
  · show bytesOf (strOfNums _) = (X.S.drop (p.1 : Int).toNat).take (strOfNums _).size
    rw [hb, hsz]
    congr 2
  · have hf' : X.finT p.2 = true := hf
    have h1 := hP.ft
    have hf2 := hf'
    unfold Wh.finT at hf2
    simp only [Bool.and_eq_true, decide_eq_true_eq] at hf2
    refine ⟨?_, ?_, ?_⟩
    · have := hf2.2
      unfold Wh.opn at this
      simp only [Bool.and_eq_true] at this
      exact this.1
    · show (if X.finT p.2 then (1 : Int) else X.ed) ≠ 0
      rw [hf', if_pos rfl]; decide
    · show (p.1 : Int).toNat + (strOfNums _).size = X.S.length
      rw [hsz]; omega
end Go.Proofs.YtpfkeohaaeiaaaaGreatDoor
namespace Go.Proofs.YtpfkeohaaeiaaaaGreatDoor
open Go.RowKit
set_option maxRecDepth 100000
/-! plain laws for SendBufDelivers: frames are acknowledged or lost one by one -/
/-- N bytes in all, `a` of them written into a buffer of lim; u acknowledged, s sent (those from u to s lost) -/
structure DeX (lim N a u s : Nat) (X : Wh) : Prop where
  lim : X.lim = lim
  S : X.S = (streamRow N N).take a
  aN : a ≤ N
  us : u ≤ s
  sa : s ≤ a
  len : X.T.length = a
  st : ∀ j, gd X.T j = if j < u then 3 else if j < s then 2 else 0
  ed : X.ed = 0 ∨ X.ed = 2
  fin : X.fin = true → a = N
section
variable {lim N a u s : Nat} {X : Wh}
theorem DeX.Sl (h : DeX lim N a u s X) : X.S.length = a := by rw [h.S]; have := h.aN; simp [streamRow_length]; omega
theorem DeX.xu (h : DeX lim N a u s X) : X.u = u := by
  refine lead_is (by rw [h.len]; have := h.us; have := h.sa; omega) (fun k hk => by rw [h.st, if_pos hk]) (fun _ => by rw [h.st, if_neg (Nat.lt_irrefl _)]; split <;> decide)
theorem DeX.sent (h : DeX lim N a u s X) : X.sent = s := by
  have := h.us
  refine first_is (by rw [h.len]; exact h.sa) (fun k hk => ?_) (fun _ => ?_)
  · rw [h.st]
    by_cases e : k < u
    · rw [if_pos e]; decide
    · rw [if_neg e, if_pos hk]; decide
  · rw [h.st, if_neg (by omega), if_neg (Nat.lt_irrefl _)]
/-- the bytes that Write takes -/
def deN (lim N a u : Nat) : Nat := min (N - a) (lim - (a - u))
theorem DeX.write (h : DeX lim N a u s X) (hc : a - u ≤ lim) (hf : X.fin = false ∨ a = N) {rest : ByteArray} (hr : bytesOf rest = (streamRow N N).drop a) :
    X.writeN rest = deN lim N a u ∧ DeX lim N (a + deN lim N a u) u s (X.write rest) := by
  have hu := h.xu; have hl := h.Sl; have h1 := h.us; have h2 := h.sa; have h3 := h.aN
  have hrs : rest.size = N - a := by rw [← bytesOf_length, hr]; simp [streamRow_length]
  have hn : X.writeN rest = deN lim N a u := by
    unfold Wh.writeN Wh.space deN
    rw [hrs, hu, hl, h.lim]
    rcases hf with hf | hf
    · rw [hf, if_neg (by decide)]; omega
    · split <;> omega
  refine ⟨hn, ⟨h.lim, ?_, by unfold deN; omega, h1, by omega, ?_, fun j => ?_, h.ed, fun e => ?_⟩⟩
  · show X.S ++ (bytesOf rest).take (X.writeN rest) = _
    rw [hn, hr, h.S, ← List.take_add]
  · show (X.T ++ _).length = _
    rw [List.length_append, h.len, hn]; simp
  · show gd (X.T ++ _) j = _
    rw [gd_append]
    split
    · exact h.st j
    · rename_i hj
      rw [h.len] at hj
      rw [if_neg (by omega), if_neg (by omega)]
      by_cases hk : j - X.T.length < X.writeN rest
      · exact gd_replicate _ _ _ hk
      · exact gd_ge (by simp; omega)
  · have : a = N := h.fin e
    unfold deN; omega
theorem DeX.finish (h : DeX lim N N u s X) : DeX lim N N u s { X with fin := true } := ⟨h.lim, h.S, h.aN, h.us, h.sa, h.len, h.st, h.ed, fun _ => rfl⟩
/-- where the next frame ends -/
def deT (a u s size : Nat) : Nat := if u < s then u + min (s - u) size else u + min (a - u) size
theorem deT_le (us : u ≤ s) (sa : s ≤ a) (size : Nat) : u ≤ deT a u s size ∧ deT a u s size ≤ a ∧ (deT a u s size ≤ s ∨ u = s) := by unfold deT; split <;> omega
theorem DeX.next (h : DeX lim N a u s X) {size : Nat} (h1 : 1 ≤ size) (h2 : size ≤ 100) (hfin : u = a → X.fin = true) : X.nextP size 100 = some (u, deT a u s size) := by
  have hsent := h.sent; have hl := h.Sl; have hus := h.us; have hsa := h.sa; have hlen := h.len
  unfold Wh.nextP
  rw [if_neg (by omega)]
  by_cases e : u < s
  · have e1 : first 2 X.T = u := first_is (by omega) (fun k hk => by rw [h.st, if_pos hk]; decide) (fun _ => by rw [h.st, if_neg (Nat.lt_irrefl _), if_pos e])
    have e0 : (size : Int).toNat = size := by omega
    have e2 : runLen 2 (X.T.drop u) size = min (s - u) size := runLen_is (by omega) (by simp only [List.length_drop]; omega) (fun k hk => by rw [gd_drop, h.st, if_neg (by omega), if_pos (by omega)]) (fun h1 h2 => by rw [gd_drop, h.st, if_neg (by omega), if_neg (by omega)]; decide)
    rw [if_pos ⟨by omega, by omega⟩, e1, e0, e2]
    unfold deT; rw [if_pos e]
  · have hus2 : u = s := by omega
    have e1 : first 2 X.T = X.T.length := first_none (fun k hk => by rw [h.st]; split; decide; split; omega; decide)
    rw [if_neg (by omega), hsent, hl]
    by_cases e3 : s < a
    · rw [if_pos ⟨e3, by omega, by decide⟩]
      unfold deT; rw [if_neg e]
      congr 2 <;> omega
    · have hop : X.opn = true := by
        unfold Wh.opn
        rw [hfin (by omega)]
        rcases h.ed with e | e <;> rw [e] <;> rfl
      rw [if_neg (by omega), if_pos ⟨by omega, hop⟩]
      unfold deT; rw [if_neg e]
      congr 2 <;> omega
theorem gd_streamRow {n j : Nat} (h : j < n) : gd (streamRow n n) j = streamAt j := by
  simp [gd, streamRow, h]
/-- the frame that Next takes here -/
theorem DeX.frame (h : DeX lim N a u s X) {size : Nat} (h1 : 1 ≤ size) (h2 : size ≤ 100) (hfin : u = a → X.fin = true) (hx : X.Ok) :
    ∃ str fin, X.nextR (some (u, deT a u s size)) = mkFr 8 u str fin ∧ str.size = deT a u s size - u ∧ (∀ k, k < str.size → gd (bytesOf str) k = streamAt (u + k)) ∧ fin = X.finT (deT a u s size) ∧ (deT a u s size = u → fin = true) ∧ FrOk (X.nextX (some (u, deT a u s size))) (mkFr 8 u str fin) := by
  have hp := h.next h1 h2 hfin
  have hA : bytesOf (strOfNums ((streamRow N N).take a)) = X.S := by rw [h.S]; exact bytes_str _ (fun x hx => streamRow_byte N N x (List.mem_of_mem_take hx))
  obtain ⟨str, fin, hR, hN, hO⟩ := next_frame hx hA hp (by omega)
  have hsz : str.size = deT a u s size - u := hN.size
  have hle := deT_le h.us h.sa size
  refine ⟨str, fin, hR, hsz, fun k hk => ?_, ?_, fun e => hN.empty (by simp only []; omega), hO⟩
  · have hb := hO.bytes
    have e1 : (mkFr 8 (u : Int) str fin).off.toNat = u := by show (u : Int).toNat = u; omega
    have e2 : (X.nextX (some (u, deT a u s size))).S = X.S := rfl
    rw [e1, e2, h.S] at hb
    have hb2 : bytesOf str = (((streamRow N N).take a).drop u).take str.size := hb
    rw [hb2, gd_take _ _ _ hk, gd_drop, gd_take _ _ _ (by omega)]
    exact gd_streamRow (by have := h.aN; omega)
  · have e : (X.nextR (some (u, deT a u s size))).fin = X.finT (deT a u s size) := rfl
    rw [hR] at e; exact e
theorem DeX.gd3 (h : DeX lim N a u s X) (size : Nat) (j : Nat) : gd (X.nextX (some (u, deT a u s size))).T j = if j < u then 3 else if j < deT a u s size then 1 else if j < s then 2 else 0 := by
  have hle := deT_le h.us h.sa size
  show gd (setTo X.T 1 u (deT a u s size - u)) j = _
  rw [gd_setTo _ _ _ _ _ (by rw [h.len]; omega), h.st]
  by_cases e1 : j < u
  · rw [if_neg (by omega), if_pos e1, if_pos e1]
  · by_cases e2 : j < deT a u s size
    · rw [if_pos (by omega), if_neg e1, if_pos e2]
    · rw [if_neg (by omega), if_neg e1, if_neg e1, if_neg e2]
theorem DeX.lost (h : DeX lim N a u s X) {size : Nat} {str : ByteArray} {fin : Bool} (hz : str.size = deT a u s size - u) (hf : fin = X.finT (deT a u s size)) (hO : FrOk (X.nextX (some (u, deT a u s size))) (mkFr 8 u str fin)) :
    DeX lim N a u (max s (deT a u s size)) ((X.nextX (some (u, deT a u s size))).lost (mkFr 8 u str fin)) := by
  have hle := deT_le h.us h.sa size
  have hl := h.len; have hsa := h.sa; have hus := h.us
  have e1 : (mkFr 8 (u : Int) str fin).off.toNat = u := by show (u : Int).toNat = u; omega
  have e2 : (mkFr 8 (u : Int) str fin).s.size = deT a u s size - u := hz
  have hl3 : (X.nextX (some (u, deT a u s size))).T.length = a := by show (setTo _ _ _ _).length = a; rw [setTo_length, hl]
  unfold Wh.lost
  rw [hO.fits, if_pos rfl]
  refine ⟨h.lim, h.S, h.aN, by omega, by omega, by simp only [Wh.mark, turnTo_length]; exact hl3, fun j => ?_, ?_, h.fin⟩
  · simp only [Wh.mark]
    rw [e1, e2, gd_turnTo _ _ _ _ _ (by rw [hl3]; omega), h.gd3]
    by_cases c1 : j < u
    · rw [if_neg (by omega), if_pos c1, if_pos c1]
    · by_cases c2 : j < deT a u s size
      · rw [if_pos (by omega), if_neg c1, if_pos c2, if_neg c1, if_pos (by omega)]; rfl
      · rw [if_neg (by omega), if_neg c1, if_neg c2, if_neg c1]
        by_cases c3 : j < s
        · rw [if_pos c3, if_pos (by omega)]
        · rw [if_neg c3, if_neg (by omega)]
  · have e : (Wh.mark false (X.nextX (some (u, deT a u s size))) (mkFr 8 u str fin)).ed = if fin = true then turn false (if X.finT (deT a u s size) = true then 1 else X.ed) else (if X.finT (deT a u s size) = true then 1 else X.ed) := rfl
    rw [e, ← hf]
    cases fin
    · exact h.ed
    · exact .inr rfl
theorem DeX.gdA (h : DeX lim N a u s X) {size : Nat} {str : ByteArray} {fin : Bool} (hz : str.size = deT a u s size - u) (j : Nat) :
    gd (Wh.mark true (X.nextX (some (u, deT a u s size))) (mkFr 8 u str fin)).T j = if j < deT a u s size then 3 else if j < s then 2 else 0 := by
  have hle := deT_le h.us h.sa size
  have hl := h.len; have hsa := h.sa; have hus := h.us
  have e1 : (mkFr 8 (u : Int) str fin).off.toNat = u := by show (u : Int).toNat = u; omega
  have e2 : (mkFr 8 (u : Int) str fin).s.size = deT a u s size - u := hz
  have hl3 : (X.nextX (some (u, deT a u s size))).T.length = a := by show (setTo _ _ _ _).length = a; rw [setTo_length, hl]
  simp only [Wh.mark]
  rw [e1, e2, gd_turnTo _ _ _ _ _ (by rw [hl3]; omega), h.gd3]
  by_cases c1 : j < u
  · rw [if_neg (by omega), if_pos c1, if_pos (by omega)]
  · by_cases c2 : j < deT a u s size
    · rw [if_pos (by omega), if_neg c1, if_pos c2, if_pos c2]; rfl
    · rw [if_neg (by omega), if_neg c1, if_neg c2, if_neg c2]
theorem DeX.acked (h : DeX lim N a u s X) {size : Nat} {str : ByteArray} {fin : Bool} (hz : str.size = deT a u s size - u) (hf : fin = X.finT (deT a u s size)) (hO : FrOk (X.nextX (some (u, deT a u s size))) (mkFr 8 u str fin)) (hn : fin = false) :
    DeX lim N a (deT a u s size) (max s (deT a u s size)) ((X.nextX (some (u, deT a u s size))).acked (mkFr 8 u str fin)) := by
  have hle := deT_le h.us h.sa size
  have hl := h.len; have hsa := h.sa; have hus := h.us
  have hl3 : (X.nextX (some (u, deT a u s size))).T.length = a := by show (setTo _ _ _ _).length = a; rw [setTo_length, hl]
  unfold Wh.acked
  rw [hO.fits, if_pos rfl]
  refine ⟨h.lim, h.S, h.aN, by omega, by omega, by simp only [Wh.mark, turnTo_length]; exact hl3, fun j => ?_, ?_, h.fin⟩
  · rw [h.gdA hz]
    by_cases c2 : j < deT a u s size
    · rw [if_pos c2, if_pos c2]
    · rw [if_neg c2, if_neg c2]
      by_cases c3 : j < s
      · rw [if_pos c3, if_pos (by omega)]
      · rw [if_neg c3, if_neg (by omega)]
  · subst hn
    show (if X.finT (deT a u s size) = true then (1 : Int) else X.ed) = 0 ∨ (if X.finT (deT a u s size) = true then (1 : Int) else X.ed) = 2
    rw [← hf]
    exact h.ed
/-- everything is acknowledged, the end too -/
structure DoneX (N : Nat) (X : Wh) : Prop where
  fin : X.fin = true
  ed : X.ed = 3
  len : X.S.length = N
  tl : X.T.length = N
  st : ∀ j, j < N → gd X.T j = 3
theorem DeX.done (h : DeX lim N a u s X) {size : Nat} {str : ByteArray} {fin : Bool} (hz : str.size = deT a u s size - u) (hf : fin = X.finT (deT a u s size)) (hO : FrOk (X.nextX (some (u, deT a u s size))) (mkFr 8 u str fin)) (hn : fin = true) :
    deT a u s size = N ∧ a = N ∧ DoneX N ((X.nextX (some (u, deT a u s size))).acked (mkFr 8 u str fin)) := by
  subst hn
  have hle := deT_le h.us h.sa size
  have hl := h.len
  have hft := hf.symm
  unfold Wh.finT Wh.opn at hft
  simp only [Bool.and_eq_true, decide_eq_true_eq, h.Sl] at hft
  obtain ⟨ht, hfn, _⟩ := hft
  have haN := h.fin hfn
  have hl3 : (X.nextX (some (u, deT a u s size))).T.length = a := by show (setTo _ _ _ _).length = a; rw [setTo_length, hl]
  refine ⟨by omega, haN, ?_⟩
  unfold Wh.acked
  rw [hO.fits, if_pos rfl]
  refine ⟨hfn, rfl, by show X.S.length = N; rw [h.Sl, haN], by simp only [Wh.mark, turnTo_length]; rw [hl3, haN], fun j hj => ?_⟩
  rw [h.gdA hz, if_pos (by omega)]
theorem DoneX.xu (h : DoneX N X) : X.u = N := lead_is (by rw [h.tl]; exact Nat.le_refl _) (fun k hk => h.st k hk) (fun hk => by rw [h.tl] at hk; omega)
theorem DoneX.done (h : DoneX N X) : X.done = true := by unfold Wh.done; rw [h.fin, h.xu, h.ed, h.len]; simp
theorem DoneX.next (h : DoneX N X) : X.nextP 10 10 = none := by
  have e1 : first 2 X.T = X.T.length := first_none (fun k hk => by rw [h.st k (by rw [← h.tl]; exact hk)]; decide)
  have e2 : X.sent = N := by
    have : first 0 X.T = X.T.length := first_none (fun k hk => by rw [h.st k (by rw [← h.tl]; exact hk)]; decide)
    show first 0 X.T = N; rw [this, h.tl]
  have e3 : X.opn = false := by unfold Wh.opn; rw [h.ed, h.fin]; rfl
  unfold Wh.nextP
  rw [if_neg (by decide), if_neg (by rw [e1]; omega), if_neg (by rw [e2, h.len]; omega), if_neg (by rw [e3]; simp)]
theorem DoneX.space (h : DoneX N X) : X.space = 0 := by unfold Wh.space; rw [h.fin]; rfl
end
end Go.Proofs.YtpfkeohaaeiaaaaGreatDoor
