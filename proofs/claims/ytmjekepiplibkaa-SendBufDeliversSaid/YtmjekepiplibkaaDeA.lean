import Derived.Test.YtmjekepiplibkaaFrA
import Derived.Test.YtmjekepiplibkaaV
namespace Go.Proofs.Ytmjekepiplibkaa
open Go.RowKit
/-! plain laws for SendBufDelivers: frames are acknowledged or lost one by one -/
/-- N bytes in all, `a` of them written into a buffer of lim; u acknowledged, s sent (those from u to s lost) -/
structure DeX (lim N a u s : Nat) (X : Wh) : Prop where
  lim : X.lim = lim
  S : X.S = (streamRow N N).take a
  aN : a ≤ N
  us : u ≤ s
  sa : s ≤ a
  len : X.T.length = a
  st : ∀ j, gd X.T j = if j < u then 3 else if j < s then 2 else 0
  ed : X.ed = 0 ∨ X.ed = 2
  fin : X.fin = true → a = N
section
variable {lim N a u s : Nat} {X : Wh}
theorem DeX.Sl (h : DeX lim N a u s X) : X.S.length = a := by rw [h.S]; have := h.aN; simp [streamRow_length]; omega
theorem DeX.xu (h : DeX lim N a u s X) : X.u = u := by
  refine lead_is (by rw [h.len]; have := h.us; have := h.sa; omega) (fun k hk => by rw [h.st, if_pos hk]) (fun _ => by rw [h.st, if_neg (Nat.lt_irrefl _)]; split <;> decide)
theorem DeX.sent (h : DeX lim N a u s X) : X.sent = s := by
  have := h.us
  refine first_is (by rw [h.len]; exact h.sa) (fun k hk => ?_) (fun _ => ?_)
  · rw [h.st]
    by_cases e : k < u
    · rw [if_pos e]; decide
    · rw [if_neg e, if_pos hk]; decide
  · rw [h.st, if_neg (by omega), if_neg (Nat.lt_irrefl _)]
/-- the bytes that Write takes -/
def deN (lim N a u : Nat) : Nat := min (N - a) (lim - (a - u))
theorem DeX.write (h : DeX lim N a u s X) (hc : a - u ≤ lim) (hf : X.fin = false ∨ a = N) {rest : ByteArray} (hr : bytesOf rest = (streamRow N N).drop a) :
    X.writeN rest = deN lim N a u ∧ DeX lim N (a + deN lim N a u) u s (X.write rest) := by
  have hu := h.xu; have hl := h.Sl; have h1 := h.us; have h2 := h.sa; have h3 := h.aN
  have hrs : rest.size = N - a := by rw [← bytesOf_length, hr]; simp [streamRow_length]
  have hn : X.writeN rest = deN lim N a u := by
    unfold Wh.writeN Wh.space deN
    rw [hrs, hu, hl, h.lim]
    rcases hf with hf | hf
    · rw [hf, if_neg (by decide)]; omega
    · split <;> omega
  refine ⟨hn, ⟨h.lim, ?_, by unfold deN; omega, h1, by omega, ?_, fun j => ?_, h.ed, fun e => ?_⟩⟩
  · show X.S ++ (bytesOf rest).take (X.writeN rest) = _
    rw [hn, hr, h.S, ← List.take_add]
  · show (X.T ++ _).length = _
    rw [List.length_append, h.len, hn]; simp
  · show gd (X.T ++ _) j = _
    rw [gd_append]
    split
    · exact h.st j
    · rename_i hj
      rw [h.len] at hj
      rw [if_neg (by omega), if_neg (by omega)]
      by_cases hk : j - X.T.length < X.writeN rest
      · exact gd_replicate _ _ _ hk
      · exact gd_ge (by simp; omega)
  · have : a = N := h.fin e
    unfold deN; omega
theorem DeX.finish (h : DeX lim N N u s X) : DeX lim N N u s { X with fin := true } := ⟨h.lim, h.S, h.aN, h.us, h.sa, h.len, h.st, h.ed, fun _ => rfl⟩
/-- where the next frame ends -/
def deT (a u s size : Nat) : Nat := if u < s then u + min (s - u) size else u + min (a - u) size
theorem deT_le (us : u ≤ s) (sa : s ≤ a) (size : Nat) : u ≤ deT a u s size ∧ deT a u s size ≤ a ∧ (deT a u s size ≤ s ∨ u = s) := by unfold deT; split <;> omega
theorem DeX.next (h : DeX lim N a u s X) {size : Nat} (h1 : 1 ≤ size) (h2 : size ≤ 100) (hfin : u = a → X.fin = true) : X.nextP size 100 = some (u, deT a u s size) := by
  have hsent := h.sent; have hl := h.Sl; have hus := h.us; have hsa := h.sa; have hlen := h.len
  unfold Wh.nextP
  rw [if_neg (by omega)]
  by_cases e : u < s
  · have e1 : first 2 X.T = u := first_is (by omega) (fun k hk => by rw [h.st, if_pos hk]; decide) (fun _ => by rw [h.st, if_neg (Nat.lt_irrefl _), if_pos e])
    have e0 : (size : Int).toNat = size := by omega
    have e2 : runLen 2 (X.T.drop u) size = min (s - u) size := runLen_is (by omega) (by simp only [List.length_drop]; omega) (fun k hk => by rw [gd_drop, h.st, if_neg (by omega), if_pos (by omega)]) (fun h1 h2 => by rw [gd_drop, h.st, if_neg (by omega), if_neg (by omega)]; decide)
    rw [if_pos ⟨by omega, by omega⟩, e1, e0, e2]
    unfold deT; rw [if_pos e]
  · have hus2 : u = s := by omega
    have e1 : first 2 X.T = X.T.length := first_none (fun k hk => by rw [h.st]; split; decide; split; omega; decide)
    rw [if_neg (by omega), hsent, hl]
    by_cases e3 : s < a
    · rw [if_pos ⟨e3, by omega, by decide⟩]
      unfold deT; rw [if_neg e]
      congr 2 <;> omega
    · have hop : X.opn = true := by
        unfold Wh.opn
        rw [hfin (by omega)]
        rcases h.ed with e | e <;> rw [e] <;> rfl
      rw [if_neg (by omega), if_pos ⟨by omega, hop⟩]
      unfold deT; rw [if_neg e]
      congr 2 <;> omega
theorem gd_streamRow {n j : Nat} (h : j < n) : gd (streamRow n n) j = streamAt j := by
  simp [gd, streamRow, h]
/-- the frame that Next takes here -/
theorem DeX.frame (h : DeX lim N a u s X) {size : Nat} (h1 : 1 ≤ size) (h2 : size ≤ 100) (hfin : u = a → X.fin = true) (hx : X.Ok) :
    ∃ str fin, X.nextR (some (u, deT a u s size)) = mkFr 8 u str fin ∧ str.size = deT a u s size - u ∧ (∀ k, k < str.size → gd (bytesOf str) k = streamAt (u + k)) ∧ fin = X.finT (deT a u s size) ∧ (deT a u s size = u → fin = true) ∧ FrOk (X.nextX (some (u, deT a u s size))) (mkFr 8 u str fin) := by
  have hp := h.next h1 h2 hfin
  have hA : bytesOf (strOfNums ((streamRow N N).take a)) = X.S := by rw [h.S]; exact bytes_str _ (fun x hx => streamRow_byte N N x (List.mem_of_mem_take hx))
  obtain ⟨str, fin, hR, hN, hO⟩ := next_frame hx hA hp (by omega)
  have hsz : str.size = deT a u s size - u := hN.size
  have hle := deT_le h.us h.sa size
  refine ⟨str, fin, hR, hsz, fun k hk => ?_, ?_, fun e => hN.empty (by simp only []; omega), hO⟩
  · have hb := hO.bytes
    have e1 : (mkFr 8 (u : Int) str fin).off.toNat = u := by show (u : Int).toNat = u; omega
    have e2 : (X.nextX (some (u, deT a u s size))).S = X.S := rfl
    rw [e1, e2, h.S] at hb
    have hb2 : bytesOf str = (((streamRow N N).take a).drop u).take str.size := hb
    rw [hb2, gd_take _ _ _ hk, gd_drop, gd_take _ _ _ (by omega)]
    exact gd_streamRow (by have := h.aN; omega)
  · have e : (X.nextR (some (u, deT a u s size))).fin = X.finT (deT a u s size) := rfl
    rw [hR] at e; exact e
theorem DeX.gd3 (h : DeX lim N a u s X) (size : Nat) (j : Nat) : gd (X.nextX (some (u, deT a u s size))).T j = if j < u then 3 else if j < deT a u s size then 1 else if j < s then 2 else 0 := by
  have hle := deT_le h.us h.sa size
  show gd (setTo X.T 1 u (deT a u s size - u)) j = _
  rw [gd_setTo _ _ _ _ _ (by rw [h.len]; omega), h.st]
  by_cases e1 : j < u
  · rw [if_neg (by omega), if_pos e1, if_pos e1]
  · by_cases e2 : j < deT a u s size
    · rw [if_pos (by omega), if_neg e1, if_pos e2]
    · rw [if_neg (by omega), if_neg e1, if_neg e1, if_neg e2]
theorem DeX.lost (h : DeX lim N a u s X) {size : Nat} {str : ByteArray} {fin : Bool} (hz : str.size = deT a u s size - u) (hf : fin = X.finT (deT a u s size)) (hO : FrOk (X.nextX (some (u, deT a u s size))) (mkFr 8 u str fin)) :
    DeX lim N a u (max s (deT a u s size)) ((X.nextX (some (u, deT a u s size))).lost (mkFr 8 u str fin)) := by
  have hle := deT_le h.us h.sa size
  have hl := h.len; have hsa := h.sa; have hus := h.us
  have e1 : (mkFr 8 (u : Int) str fin).off.toNat = u := by show (u : Int).toNat = u; omega
  have e2 : (mkFr 8 (u : Int) str fin).s.size = deT a u s size - u := hz
  have hl3 : (X.nextX (some (u, deT a u s size))).T.length = a := by show (setTo _ _ _ _).length = a; rw [setTo_length, hl]
  unfold Wh.lost
  rw [hO.fits, if_pos rfl]
  refine ⟨h.lim, h.S, h.aN, by omega, by omega, by simp only [Wh.mark, turnTo_length]; exact hl3, fun j => ?_, ?_, h.fin⟩
  · simp only [Wh.mark]
    rw [e1, e2, gd_turnTo _ _ _ _ _ (by rw [hl3]; omega), h.gd3]
    by_cases c1 : j < u
    · rw [if_neg (by omega), if_pos c1, if_pos c1]
    · by_cases c2 : j < deT a u s size
      · rw [if_pos (by omega), if_neg c1, if_pos c2, if_neg c1, if_pos (by omega)]; rfl
      · rw [if_neg (by omega), if_neg c1, if_neg c2, if_neg c1]
        by_cases c3 : j < s
        · rw [if_pos c3, if_pos (by omega)]
        · rw [if_neg c3, if_neg (by omega)]
  · have e : (Wh.mark false (X.nextX (some (u, deT a u s size))) (mkFr 8 u str fin)).ed = if fin = true then turn false (if X.finT (deT a u s size) = true then 1 else X.ed) else (if X.finT (deT a u s size) = true then 1 else X.ed) := rfl
    rw [e, ← hf]
    cases fin
    · exact h.ed
    · exact .inr rfl
theorem DeX.gdA (h : DeX lim N a u s X) {size : Nat} {str : ByteArray} {fin : Bool} (hz : str.size = deT a u s size - u) (j : Nat) :
    gd (Wh.mark true (X.nextX (some (u, deT a u s size))) (mkFr 8 u str fin)).T j = if j < deT a u s size then 3 else if j < s then 2 else 0 := by
  have hle := deT_le h.us h.sa size
  have hl := h.len; have hsa := h.sa; have hus := h.us
  have e1 : (mkFr 8 (u : Int) str fin).off.toNat = u := by show (u : Int).toNat = u; omega
  have e2 : (mkFr 8 (u : Int) str fin).s.size = deT a u s size - u := hz
  have hl3 : (X.nextX (some (u, deT a u s size))).T.length = a := by show (setTo _ _ _ _).length = a; rw [setTo_length, hl]
  simp only [Wh.mark]
  rw [e1, e2, gd_turnTo _ _ _ _ _ (by rw [hl3]; omega), h.gd3]
  by_cases c1 : j < u
  · rw [if_neg (by omega), if_pos c1, if_pos (by omega)]
  · by_cases c2 : j < deT a u s size
    · rw [if_pos (by omega), if_neg c1, if_pos c2, if_pos c2]; rfl
    · rw [if_neg (by omega), if_neg c1, if_neg c2, if_neg c2]
theorem DeX.acked (h : DeX lim N a u s X) {size : Nat} {str : ByteArray} {fin : Bool} (hz : str.size = deT a u s size - u) (hf : fin = X.finT (deT a u s size)) (hO : FrOk (X.nextX (some (u, deT a u s size))) (mkFr 8 u str fin)) (hn : fin = false) :
    DeX lim N a (deT a u s size) (max s (deT a u s size)) ((X.nextX (some (u, deT a u s size))).acked (mkFr 8 u str fin)) := by
  have hle := deT_le h.us h.sa size
  have hl := h.len; have hsa := h.sa; have hus := h.us
  have hl3 : (X.nextX (some (u, deT a u s size))).T.length = a := by show (setTo _ _ _ _).length = a; rw [setTo_length, hl]
  unfold Wh.acked
  rw [hO.fits, if_pos rfl]
  refine ⟨h.lim, h.S, h.aN, by omega, by omega, by simp only [Wh.mark, turnTo_length]; exact hl3, fun j => ?_, ?_, h.fin⟩
  · rw [h.gdA hz]
    by_cases c2 : j < deT a u s size
    · rw [if_pos c2, if_pos c2]
    · rw [if_neg c2, if_neg c2]
      by_cases c3 : j < s
      · rw [if_pos c3, if_pos (by omega)]
      · rw [if_neg c3, if_neg (by omega)]
  · subst hn
    show (if X.finT (deT a u s size) = true then (1 : Int) else X.ed) = 0 ∨ (if X.finT (deT a u s size) = true then (1 : Int) else X.ed) = 2
    rw [← hf]
    exact h.ed
/-- everything is acknowledged, the end too -/
structure DoneX (N : Nat) (X : Wh) : Prop where
  fin : X.fin = true
  ed : X.ed = 3
  len : X.S.length = N
  tl : X.T.length = N
  st : ∀ j, j < N → gd X.T j = 3
theorem DeX.done (h : DeX lim N a u s X) {size : Nat} {str : ByteArray} {fin : Bool} (hz : str.size = deT a u s size - u) (hf : fin = X.finT (deT a u s size)) (hO : FrOk (X.nextX (some (u, deT a u s size))) (mkFr 8 u str fin)) (hn : fin = true) :
    deT a u s size = N ∧ a = N ∧ DoneX N ((X.nextX (some (u, deT a u s size))).acked (mkFr 8 u str fin)) := by
  subst hn
  have hle := deT_le h.us h.sa size
  have hl := h.len
  have hft := hf.symm
  unfold Wh.finT Wh.opn at hft
  simp only [Bool.and_eq_true, decide_eq_true_eq, h.Sl] at hft
  obtain ⟨ht, hfn, _⟩ := hft
  have haN := h.fin hfn
  have hl3 : (X.nextX (some (u, deT a u s size))).T.length = a := by show (setTo _ _ _ _).length = a; rw [setTo_length, hl]
  refine ⟨by omega, haN, ?_⟩
  unfold Wh.acked
  rw [hO.fits, if_pos rfl]
  refine ⟨hfn, rfl, by show X.S.length = N; rw [h.Sl, haN], by simp only [Wh.mark, turnTo_length]; rw [hl3, haN], fun j hj => ?_⟩
  rw [h.gdA hz, if_pos (by omega)]
theorem DoneX.xu (h : DoneX N X) : X.u = N := lead_is (by rw [h.tl]; exact Nat.le_refl _) (fun k hk => h.st k hk) (fun hk => by rw [h.tl] at hk; omega)
theorem DoneX.done (h : DoneX N X) : X.done = true := by unfold Wh.done; rw [h.fin, h.xu, h.ed, h.len]; simp
theorem DoneX.next (h : DoneX N X) : X.nextP 10 10 = none := by
  have e1 : first 2 X.T = X.T.length := first_none (fun k hk => by rw [h.st k (by rw [← h.tl]; exact hk)]; decide)
  have e2 : X.sent = N := by
    have : first 0 X.T = X.T.length := first_none (fun k hk => by rw [h.st k (by rw [← h.tl]; exact hk)]; decide)
    show first 0 X.T = N; rw [this, h.tl]
  have e3 : X.opn = false := by unfold Wh.opn; rw [h.ed, h.fin]; rfl
  unfold Wh.nextP
  rw [if_neg (by decide), if_neg (by rw [e1]; omega), if_neg (by rw [e2, h.len]; omega), if_neg (by rw [e3]; simp)]
theorem DoneX.space (h : DoneX N X) : X.space = 0 := by unfold Wh.space; rw [h.fin]; rfl
theorem DeX.notdone (h : DeX lim N a u s X) : X.done = false := by
  unfold Wh.done
  rcases h.ed with e | e <;> rw [e] <;> simp
end
end Go.Proofs.Ytmjekepiplibkaa
