/- Texts DeA Rwl Rwm Rwa Cp Rwn of this claim, one behind the other. -/
import Derived.Test.YtpfkeohaaeiaaaaDoorWm10
import Derived.Test.YtpfkeohaaeiaaaaDoorWm2
import Derived.BigQuiet
import Derived.Test.YtpfkeohaaeiaaaaDoorWm1
import Derived.Deep.Slices
import Derived.Test.YtpfkeohaaeiaaaaDoorWm6
import Derived.Test.YtpfkeohaaeiaaaaDoorWm5
namespace Go.Proofs.YtpfkeohaaeiaaaaDoor
open Go.RowKit
set_option maxRecDepth 100000
/-! plain laws for SendBufDelivers: frames are acknowledged or lost one by one -/
/-- N bytes in all, `a` of them written into a buffer of lim; u acknowledged, s sent (those from u to s lost) -/
structure DeX (lim N a u s : Nat) (X : Wh) : Prop where
  lim : X.lim = lim
  S : X.S = (streamRow N N).take a
  aN : a ≤ N
  us : u ≤ s
  sa : s ≤ a
  len : X.T.length = a
  st : ∀ j, gd X.T j = if j < u then 3 else if j < s then 2 else 0
  ed : X.ed = 0 ∨ X.ed = 2
  fin : X.fin = true → a = N
section
variable {lim N a u s : Nat} {X : Wh}
theorem DeX.Sl (h : DeX lim N a u s X) : X.S.length = a := by rw [h.S]; have := h.aN; simp [streamRow_length]; omega
theorem DeX.xu (h : DeX lim N a u s X) : X.u = u := by
  refine lead_is (by rw [h.len]; have := h.us; have := h.sa; omega) (fun k hk => by rw [h.st, if_pos hk]) (fun _ => by rw [h.st, if_neg (Nat.lt_irrefl _)]; split <;> decide)
theorem DeX.sent (h : DeX lim N a u s X) : X.sent = s := by
  have := h.us
  refine first_is (by rw [h.len]; exact h.sa) (fun k hk => ?_) (fun _ => ?_)
  · rw [h.st]
    by_cases e : k < u
    · rw [if_pos e]; decide
    · rw [if_neg e, if_pos hk]; decide
  · rw [h.st, if_neg (by omega), if_neg (Nat.lt_irrefl _)]
/-- the bytes that Write takes -/
def deN (lim N a u : Nat) : Nat := min (N - a) (lim - (a - u))
theorem DeX.write (h : DeX lim N a u s X) (hc : a - u ≤ lim) (hf : X.fin = false ∨ a = N) {rest : ByteArray} (hr : bytesOf rest = (streamRow N N).drop a) :
    X.writeN rest = deN lim N a u ∧ DeX lim N (a + deN lim N a u) u s (X.write rest) := by
  have hu := h.xu; have hl := h.Sl; have h1 := h.us; have h2 := h.sa; have h3 := h.aN
  have hrs : rest.size = N - a := by rw [← bytesOf_length, hr]; simp [streamRow_length]
  have hn : X.writeN rest = deN lim N a u := by
    unfold Wh.writeN Wh.space deN
    rw [hrs, hu, hl, h.lim]
    rcases hf with hf | hf
    · rw [hf, if_neg (by decide)]; omega
    · split <;> omega
  refine ⟨hn, ⟨h.lim, ?_, by unfold deN; omega, h1, by omega, ?_, fun j => ?_, h.ed, fun e => ?_⟩⟩
  · show X.S ++ (bytesOf rest).take (X.writeN rest) = _
    rw [hn, hr, h.S, ← List.take_add]
  · show (X.T ++ _).length = _
    rw [List.length_append, h.len, hn]; simp
  · show gd (X.T ++ _) j = _
    rw [gd_append]
    split
    · exact h.st j
    · rename_i hj
      rw [h.len] at hj
      rw [if_neg (by omega), if_neg (by omega)]
      by_cases hk : j - X.T.length < X.writeN rest
      · exact gd_replicate _ _ _ hk
      · exact gd_ge (by simp; omega)
  · have : a = N := h.fin e
    unfold deN; omega
theorem DeX.finish (h : DeX lim N N u s X) : DeX lim N N u s { X with fin := true } := ⟨h.lim, h.S, h.aN, h.us, h.sa, h.len, h.st, h.ed, fun _ => rfl⟩
/-- where the next frame ends -/
def deT (a u s size : Nat) : Nat := if u < s then u + min (s - u) size else u + min (a - u) size
theorem deT_le (us : u ≤ s) (sa : s ≤ a) (size : Nat) : u ≤ deT a u s size ∧ deT a u s size ≤ a ∧ (deT a u s size ≤ s ∨ u = s) := by unfold deT; split <;> omega
theorem DeX.next (h : DeX lim N a u s X) {size : Nat} (h1 : 1 ≤ size) (h2 : size ≤ 100) (hfin : u = a → X.fin = true) : X.nextP size 100 = some (u, deT a u s size) := by
  have hsent := h.sent; have hl := h.Sl; have hus := h.us; have hsa := h.sa; have hlen := h.len
  unfold Wh.nextP
  rw [if_neg (by omega)]
  by_cases e : u < s
  · have e1 : first 2 X.T = u := first_is (by omega) (fun k hk => by rw [h.st, if_pos hk]; decide) (fun _ => by rw [h.st, if_neg (Nat.lt_irrefl _), if_pos e])
    have e0 : (size : Int).toNat = size := by omega
    have e2 : runLen 2 (X.T.drop u) size = min (s - u) size := runLen_is (by omega) (by simp only [List.length_drop]; omega) (fun k hk => by rw [gd_drop, h.st, if_neg (by omega), if_pos (by omega)]) (fun h1 h2 => by rw [gd_drop, h.st, if_neg (by omega), if_neg (by omega)]; decide)
    rw [if_pos ⟨by omega, by omega⟩, e1, e0, e2]
    unfold deT; rw [if_pos e]
  · have hus2 : u = s := by omega
    have e1 : first 2 X.T = X.T.length := first_none (fun k hk => by rw [h.st]; split; decide; split; omega; decide)
    rw [if_neg (by omega), hsent, hl]
    by_cases e3 : s < a
    · rw [if_pos ⟨e3, by omega, by decide⟩]
      unfold deT; rw [if_neg e]
      congr 2 <;> omega
    · have hop : X.opn = true := by
        unfold Wh.opn
        rw [hfin (by omega)]
        rcases h.ed with e | e <;> rw [e] <;> rfl
      rw [if_neg (by omega), if_pos ⟨by omega, hop⟩]
      unfold deT; rw [if_neg e]
      congr 2 <;> omega
theorem gd_streamRow {n j : Nat} (h : j < n) : gd (streamRow n n) j = streamAt j := by
  simp [gd, streamRow, h]
/-- the frame that Next takes here -/
theorem DeX.frame (h : DeX lim N a u s X) {size : Nat} (h1 : 1 ≤ size) (h2 : size ≤ 100) (hfin : u = a → X.fin = true) (hx : X.Ok) :
    ∃ str fin, X.nextR (some (u, deT a u s size)) = mkFr 8 u str fin ∧ str.size = deT a u s size - u ∧ (∀ k, k < str.size → gd (bytesOf str) k = streamAt (u + k)) ∧ fin = X.finT (deT a u s size) ∧ (deT a u s size = u → fin = true) ∧ FrOk (X.nextX (some (u, deT a u s size))) (mkFr 8 u str fin) := by
  have hp := h.next h1 h2 hfin
  have hA : bytesOf (strOfNums ((streamRow N N).take a)) = X.S := by rw [h.S]; exact bytes_str _ (fun x hx => streamRow_byte N N x (List.mem_of_mem_take hx))
  obtain ⟨str, fin, hR, hN, hO⟩ := next_frame hx hA hp (by omega)
  have hsz : str.size = deT a u s size - u := hN.size
  have hle := deT_le h.us h.sa size
  refine ⟨str, fin, hR, hsz, fun k hk => ?_, ?_, fun e => hN.empty (by simp only []; omega), hO⟩
  · have hb := hO.bytes
    have e1 : (mkFr 8 (u : Int) str fin).off.toNat = u := by show (u : Int).toNat = u; omega
    have e2 : (X.nextX (some (u, deT a u s size))).S = X.S := rfl
    rw [e1, e2, h.S] at hb
    have hb2 : bytesOf str = (((streamRow N N).take a).drop u).take str.size := hb
    rw [hb2, gd_take _ _ _ hk, gd_drop, gd_take _ _ _ (by omega)]
    exact gd_streamRow (by have := h.aN; omega)
  · have e : (X.nextR (some (u, deT a u s size))).fin = X.finT (deT a u s size) := rfl
    rw [hR] at e; exact e
theorem DeX.gd3 (h : DeX lim N a u s X) (size : Nat) (j : Nat) : gd (X.nextX (some (u, deT a u s size))).T j = if j < u then 3 else if j < deT a u s size then 1 else if j < s then 2 else 0 := by
  have hle := deT_le h.us h.sa size
  show gd (setTo X.T 1 u (deT a u s size - u)) j = _
  rw [gd_setTo _ _ _ _ _ (by rw [h.len]; omega), h.st]
  by_cases e1 : j < u
  · rw [if_neg (by omega), if_pos e1, if_pos e1]
  · by_cases e2 : j < deT a u s size
    · rw [if_pos (by omega), if_neg e1, if_pos e2]
    · rw [if_neg (by omega), if_neg e1, if_neg e1, if_neg e2]
theorem DeX.lost (h : DeX lim N a u s X) {size : Nat} {str : ByteArray} {fin : Bool} (hz : str.size = deT a u s size - u) (hf : fin = X.finT (deT a u s size)) (hO : FrOk (X.nextX (some (u, deT a u s size))) (mkFr 8 u str fin)) :
    DeX lim N a u (max s (deT a u s size)) ((X.nextX (some (u, deT a u s size))).lost (mkFr 8 u str fin)) := by
  have hle := deT_le h.us h.sa size
  have hl := h.len; have hsa := h.sa; have hus := h.us
  have e1 : (mkFr 8 (u : Int) str fin).off.toNat = u := by show (u : Int).toNat = u; omega
  have e2 : (mkFr 8 (u : Int) str fin).s.size = deT a u s size - u := hz
  have hl3 : (X.nextX (some (u, deT a u s size))).T.length = a := by show (setTo _ _ _ _).length = a; rw [setTo_length, hl]
  unfold Wh.lost
  rw [hO.fits, if_pos rfl]
  refine ⟨h.lim, h.S, h.aN, by omega, by omega, by simp only [Wh.mark, turnTo_length]; exact hl3, fun j => ?_, ?_, h.fin⟩
  · simp only [Wh.mark]
    rw [e1, e2, gd_turnTo _ _ _ _ _ (by rw [hl3]; omega), h.gd3]
    by_cases c1 : j < u
    · rw [if_neg (by omega), if_pos c1, if_pos c1]
    · by_cases c2 : j < deT a u s size
      · rw [if_pos (by omega), if_neg c1, if_pos c2, if_neg c1, if_pos (by omega)]; rfl
      · rw [if_neg (by omega), if_neg c1, if_neg c2, if_neg c1]
        by_cases c3 : j < s
        · rw [if_pos c3, if_pos (by omega)]
        · rw [if_neg c3, if_neg (by omega)]
  · have e : (Wh.mark false (X.nextX (some (u, deT a u s size))) (mkFr 8 u str fin)).ed = if fin = true then turn false (if X.finT (deT a u s size) = true then 1 else X.ed) else (if X.finT (deT a u s size) = true then 1 else X.ed) := rfl
    rw [e, ← hf]
    cases fin
    · exact h.ed
    · exact .inr rfl
theorem DeX.gdA (h : DeX lim N a u s X) {size : Nat} {str : ByteArray} {fin : Bool} (hz : str.size = deT a u s size - u) (j : Nat) :
    gd (Wh.mark true (X.nextX (some (u, deT a u s size))) (mkFr 8 u str fin)).T j = if j < deT a u s size then 3 else if j < s then 2 else 0 := by
  have hle := deT_le h.us h.sa size
  have hl := h.len; have hsa := h.sa; have hus := h.us
  have e1 : (mkFr 8 (u : Int) str fin).off.toNat = u := by show (u : Int).toNat = u; omega
  have e2 : (mkFr 8 (u : Int) str fin).s.size = deT a u s size - u := hz
  have hl3 : (X.nextX (some (u, deT a u s size))).T.length = a := by show (setTo _ _ _ _).length = a; rw [setTo_length, hl]
  simp only [Wh.mark]
  rw [e1, e2, gd_turnTo _ _ _ _ _ (by rw [hl3]; omega), h.gd3]
  by_cases c1 : j < u
  · rw [if_neg (by omega), if_pos c1, if_pos (by omega)]
  · by_cases c2 : j < deT a u s size
    · rw [if_pos (by omega), if_neg c1, if_pos c2, if_pos c2]; rfl
    · rw [if_neg (by omega), if_neg c1, if_neg c2, if_neg c2]
theorem DeX.acked (h : DeX lim N a u s X) {size : Nat} {str : ByteArray} {fin : Bool} (hz : str.size = deT a u s size - u) (hf : fin = X.finT (deT a u s size)) (hO : FrOk (X.nextX (some (u, deT a u s size))) (mkFr 8 u str fin)) (hn : fin = false) :
    DeX lim N a (deT a u s size) (max s (deT a u s size)) ((X.nextX (some (u, deT a u s size))).acked (mkFr 8 u str fin)) := by
  have hle := deT_le h.us h.sa size
  have hl := h.len; have hsa := h.sa; have hus := h.us
  have hl3 : (X.nextX (some (u, deT a u s size))).T.length = a := by show (setTo _ _ _ _).length = a; rw [setTo_length, hl]
  unfold Wh.acked
  rw [hO.fits, if_pos rfl]
  refine ⟨h.lim, h.S, h.aN, by omega, by omega, by simp only [Wh.mark, turnTo_length]; exact hl3, fun j => ?_, ?_, h.fin⟩
  · rw [h.gdA hz]
    by_cases c2 : j < deT a u s size
    · rw [if_pos c2, if_pos c2]
    · rw [if_neg c2, if_neg c2]
      by_cases c3 : j < s
      · rw [if_pos c3, if_pos (by omega)]
      · rw [if_neg c3, if_neg (by omega)]
  · subst hn
    show (if X.finT (deT a u s size) = true then (1 : Int) else X.ed) = 0 ∨ (if X.finT (deT a u s size) = true then (1 : Int) else X.ed) = 2
    rw [← hf]
    exact h.ed
/-- everything is acknowledged, the end too -/
structure DoneX (N : Nat) (X : Wh) : Prop where
  fin : X.fin = true
  ed : X.ed = 3
  len : X.S.length = N
  tl : X.T.length = N
  st : ∀ j, j < N → gd X.T j = 3
theorem DeX.done (h : DeX lim N a u s X) {size : Nat} {str : ByteArray} {fin : Bool} (hz : str.size = deT a u s size - u) (hf : fin = X.finT (deT a u s size)) (hO : FrOk (X.nextX (some (u, deT a u s size))) (mkFr 8 u str fin)) (hn : fin = true) :
    deT a u s size = N ∧ a = N ∧ DoneX N ((X.nextX (some (u, deT a u s size))).acked (mkFr 8 u str fin)) := by
  subst hn
  have hle := deT_le h.us h.sa size
  have hl := h.len
  have hft := hf.symm
  unfold Wh.finT Wh.opn at hft
  simp only [Bool.and_eq_true, decide_eq_true_eq, h.Sl] at hft
  obtain ⟨ht, hfn, _⟩ := hft
  have haN := h.fin hfn
  have hl3 : (X.nextX (some (u, deT a u s size))).T.length = a := by show (setTo _ _ _ _).length = a; rw [setTo_length, hl]
  refine ⟨by omega, haN, ?_⟩
  unfold Wh.acked
  rw [hO.fits, if_pos rfl]
  refine ⟨hfn, rfl, by show X.S.length = N; rw [h.Sl, haN], by simp only [Wh.mark, turnTo_length]; rw [hl3, haN], fun j hj => ?_⟩
  rw [h.gdA hz, if_pos (by omega)]
theorem DoneX.xu (h : DoneX N X) : X.u = N := lead_is (by rw [h.tl]; exact Nat.le_refl _) (fun k hk => h.st k hk) (fun hk => by rw [h.tl] at hk; omega)
theorem DoneX.done (h : DoneX N X) : X.done = true := by unfold Wh.done; rw [h.fin, h.xu, h.ed, h.len]; simp
theorem DoneX.next (h : DoneX N X) : X.nextP 10 10 = none := by
  have e1 : first 2 X.T = X.T.length := first_none (fun k hk => by rw [h.st k (by rw [← h.tl]; exact hk)]; decide)
  have e2 : X.sent = N := by
    have : first 0 X.T = X.T.length := first_none (fun k hk => by rw [h.st k (by rw [← h.tl]; exact hk)]; decide)
    show first 0 X.T = N; rw [this, h.tl]
  have e3 : X.opn = false := by unfold Wh.opn; rw [h.ed, h.fin]; rfl
  unfold Wh.nextP
  rw [if_neg (by decide), if_neg (by rw [e1]; omega), if_neg (by rw [e2, h.len]; omega), if_neg (by rw [e3]; simp)]
theorem DoneX.space (h : DoneX N X) : X.space = 0 := by unfold Wh.space; rw [h.fin]; rfl
theorem DeX.notdone (h : DeX lim N a u s X) : X.done = false := by
  unfold Wh.done
  rcases h.ed with e | e <;> rw [e] <;> simp
end
end Go.Proofs.YtpfkeohaaeiaaaaDoor
/- SendBufWithinLimits: plain laws: what the receiver holds, what was sent. -/
namespace Go.Proofs.YtpfkeohaaeiaaaaDoor.rea
open Go.RowKit
/-- what the receiver holds: a bytes read, the window's bytes, the highest end, whether the end is known -/
structure Rcv (St : Nat → Int) (N w s a : Nat) (bs : List Int) (hs : List Bool) (hi : Nat) (kn : Bool) : Prop where
  bl : bs.length = w
  hl : hs.length = w
  held : ∀ k, k < w → hg hs k = true → a + k < s ∧ a + k < hi ∧ gd bs k = St (a + k)
  his : hi ≤ s
  ah : a ≤ hi
  kN : kn = true → s = N ∧ hi = N
  last : ∀ k, k < w → hg hs k = true → a + k + 1 = N → kn = true
  all : a = N → 0 < N → kn = true
section
variable {St : Nat → Int} {N w s a : Nat} {bs : List Int} {hs : List Bool} {hi : Nat} {kn : Bool}
theorem Rcv.more (h : Rcv St N w s a bs hs hi kn) {t : Nat} (h1 : s ≤ t) (h2 : t ≤ N) : Rcv St N w t a bs hs hi kn :=
  ⟨h.bl, h.hl, fun k h3 h4 => by have := h.held k h3 h4; exact ⟨by omega, this.2⟩, by have := h.his; omega, h.ah, fun e => by have := h.kN e; omega, h.last, h.all⟩
variable {off : Nat} {str : List Int} {fin : Bool}
theorem Rcv.agrees (h : Rcv St N w s a bs hs hi kn) (hb : ∀ k, k < str.length → gd str k = St (off + k)) : agF a bs hs off str = true := by
  refine agF_true (fun i k h1 h2 h3 h4 => ?_)
  rw [h.bl] at h2
  have := (h.held k h2 h4).2.2
  rw [this, hb i h1]
  congr 1; omega
theorem Rcv.put (h : Rcv St N w s a bs hs hi kn) (hb : ∀ k, k < str.length → gd str k = St (off + k)) (he : off + str.length ≤ s) (sN : s ≤ N) (hf : fin = decide (off + str.length = N)) :
    Rcv St N w s a (putB a off str str.length bs) (putH a off str.length hs) (max hi (off + str.length)) (kn || fin) := by
  refine ⟨by rw [putB_length]; exact h.bl, by rw [putH_length]; exact h.hl, fun k hk e => ?_, by have := h.his; omega, by have := h.ah; omega, fun e => ?_, fun k hk e hN => ?_, fun e h0 => ?_⟩
  · rw [hg_putH _ _ _ _ _ (by rw [h.hl]; exact hk), Bool.or_eq_true, decide_eq_true_eq] at e
    rw [gd_putB _ _ _ _ _ _ (by rw [h.bl]; exact hk)]
    by_cases c : (off : Int) ≤ (a : Int) + (k : Int) ∧ (a : Int) + (k : Int) < (off : Int) + (str.length : Int)
    · rw [if_pos c]
      refine ⟨by omega, by omega, ?_⟩
      rw [hb _ (by omega)]
      congr 1; omega
    · rw [if_neg c]
      have := h.held k hk (e.resolve_left c)
      exact ⟨this.1, by omega, this.2.2⟩
  · rw [Bool.or_eq_true] at e
    rcases e with e | e
    · have := h.kN e; have := h.his; omega
    · rw [e] at hf; have := of_decide_eq_true hf.symm; have := h.his; omega
  · rw [hg_putH _ _ _ _ _ (by rw [h.hl]; exact hk), Bool.or_eq_true, decide_eq_true_eq] at e
    rcases e with e | e
    · have : fin = true := by rw [hf, decide_eq_true_eq]; omega
      rw [this, Bool.or_true]
    · rw [h.last k hk e hN, Bool.true_or]
  · rw [h.all e h0, Bool.true_or]
theorem Rcv.put_ready (h : Rcv St N w s a bs hs hi kn) (h1 : off ≤ a) (h2 : a < off + str.length) (hw : 0 < w) : 1 ≤ readyF (putH a off str.length hs) := by
  rcases Nat.eq_zero_or_pos (readyF (putH a off str.length hs)) with e | e
  · have h3 := readyF_at (putH (a : Int) off str.length hs) (by rw [e, putH_length, h.hl]; exact hw)
    rw [e, hg_putH _ _ _ _ _ (by rw [h.hl]; exact hw), decide_eq_true (by omega)] at h3
    cases h3
  · exact e
theorem Rcv.room (h : Rcv St N w s a bs hs hi kn) {m : Nat} (hm : m ≤ readyF hs) : a + m ≤ hi ∧ m ≤ w := by
  have h1 := readyF_le hs
  rw [h.hl] at h1
  rcases Nat.eq_zero_or_pos m with e | e
  · have := h.ah; omega
  · have h2 := readyF_lt hs (m - 1) (by omega)
    have h3 := h.held (m - 1) (by omega) h2
    omega
theorem Rcv.read (h : Rcv St N w s a bs hs hi kn) {m : Nat} (hm : m ≤ readyF hs) : Rcv St N w s (a + m) (takeB m bs) (takeH m hs) hi kn := by
  obtain ⟨r1, r2⟩ := h.room hm
  refine ⟨by rw [takeB_length]; exact h.bl, by rw [takeH_length]; exact h.hl, fun k hk e => ?_, h.his, r1, h.kN, fun k hk e hN => ?_, fun e h0 => ?_⟩
  · rw [hg_takeH _ _ _ (by rw [h.hl]; exact r2), h.hl] at e
    rw [gd_takeB _ _ _ (by rw [h.bl]; exact r2), h.bl]
    by_cases c : m + k < w
    · rw [if_pos c] at e
      rw [if_pos c]
      have := h.held (m + k) c e
      rw [Nat.add_assoc]; exact this
    · rw [if_neg c] at e; cases e
  · rw [hg_takeH _ _ _ (by rw [h.hl]; exact r2), h.hl] at e
    by_cases c : m + k < w
    · rw [if_pos c] at e
      exact h.last (m + k) c e (by omega)
    · rw [if_neg c] at e; cases e
  · rcases Nat.eq_zero_or_pos m with e0 | e0
    · exact h.all (by omega) h0
    · have h1 := readyF_le hs
      rw [h.hl] at h1
      exact h.last (m - 1) (by omega) (readyF_lt hs _ (by omega)) (by omega)
/-- what is read are the stream's bytes -/
theorem Rcv.bytes (h : Rcv St N w s a bs hs hi kn) {m : Nat} (hm : m ≤ readyF hs) (k : Nat) (hk : k < m) : gd (bs.take m) k = St (a + k) := by
  have h1 := readyF_le hs
  rw [h.hl] at h1
  have h2 := (h.held k (by omega) (readyF_lt hs k (by omega))).2.2
  unfold gd at *
  rw [List.getElem?_take_of_lt hk]; exact h2
theorem Rcv.start (St : Nat → Int) (N w : Nat) : Rcv St N w 0 0 (List.replicate w 0) (List.replicate w false) 0 false := by
  refine ⟨by simp, by simp, fun k hk e => ?_, Nat.le_refl _, Nat.le_refl _, (fun e => nomatch e), fun k hk e => ?_, fun e h => by omega⟩
  · simp [hg, hk] at e
  · simp [hg, hk] at e
end

/-- the frames of a list are pieces of the stream that was sent up to s; every byte below s lies in one -/
structure Sw (N s : Nat) (l : List Fr) : Prop where
  sN : s ≤ N
  each : ∀ f ∈ l, ∃ (u : Nat) (str : ByteArray), f = mkFr 8 u str (decide (u + str.size = N)) ∧ u + str.size ≤ s ∧ ∀ k, k < str.size → gd (bytesOf str) k = streamAt (u + k)
  cov : ∀ p, p < s → ∃ f ∈ l, f.off ≤ (p : Int) ∧ (p : Int) < f.off + f.s.size
theorem Sw.start (N : Nat) : Sw N 0 [] := ⟨Nat.zero_le _, (fun _ h => nomatch h), fun _ h => absurd h (Nat.not_lt_zero _)⟩
theorem Sw.send {N s t : Nat} {l : List Fr} (h : Sw N s l) {str : ByteArray} (h1 : s + str.size = t) (h2 : t ≤ N) (hb : ∀ k, k < str.size → gd (bytesOf str) k = streamAt (s + k)) : Sw N t (l ++ [mkFr 8 s str (decide (t = N))]) := by
  refine ⟨h2, fun x hx => ?_, fun p hp => ?_⟩
  · rcases List.mem_append.1 hx with hx | hx
    · obtain ⟨u, st, e, h3, h4⟩ := h.each x hx
      exact ⟨u, st, e, by omega, h4⟩
    · obtain rfl := List.mem_singleton.1 hx
      exact ⟨s, str, by rw [h1], by omega, hb⟩
  · by_cases c : p < s
    · obtain ⟨x, hx, hc⟩ := h.cov p c
      exact ⟨x, List.mem_append_left _ hx, hc⟩
    · exact ⟨_, List.mem_append_right _ (List.mem_singleton_self _), by simp only [mkFr]; omega, by simp only [mkFr]; omega⟩
/-- the piece that the reader waits for has its byte -/
theorem Sw.wanted {N s a : Nat} {l : List Fr} (h : Sw N s l) (ha : a < s) {f : Fr} (hf : f ∈ l) (hw : ((decide (f.off ≤ (a : Int)) && decide ((a : Int) < f.off + f.s.size)) || (f.fin && decide ((a : Int) = f.off + f.s.size))) = true ∨ ∀ g ∈ l, ((decide (g.off ≤ (a : Int)) && decide ((a : Int) < g.off + g.s.size)) || (g.fin && decide ((a : Int) = g.off + g.s.size))) = false) :
    f.off ≤ (a : Int) ∧ (a : Int) < f.off + f.s.size := by
  rcases hw with hw | hw
  · rw [Bool.or_eq_true] at hw
    rcases hw with hw | hw
    · rw [Bool.and_eq_true, decide_eq_true_eq, decide_eq_true_eq] at hw; exact hw
    · rw [Bool.and_eq_true, decide_eq_true_eq] at hw
      obtain ⟨u, st, rfl, h3, h4⟩ := h.each f hf
      have h5 := h.sN
      have := hw.1
      simp only [mkFr, decide_eq_true_eq] at this hw
      omega
  · obtain ⟨g, hg, h1, h2⟩ := h.cov a ha
    have := hw g hg
    rw [decide_eq_true h1, decide_eq_true h2] at this
    simp at this
end Go.Proofs.YtpfkeohaaeiaaaaDoor.rea
/- SendBufWithinLimits: the send buffer, everything written, the end, s bytes sent; other blocks of the call's own. -/
namespace Go.Proofs.YtpfkeohaaeiaaaaDoor
open Go.RowKit
/-- N bytes and the end written into a buffer of 400, s of them sent -/
def wlX (N s : Nat) : Wh := ⟨400, streamRow N N, stT s N, true, if s = N ∧ 0 < N then 1 else 0⟩
theorem wl_start {N : Nat} (h : N ≤ 400) : ({ flX 400 N 0 with fin := true } : Wh) = wlX N 0 := by
  have e : min N 400 = N := by omega
  unfold flX wlX
  rw [e, List.take_of_length_le (by simp [streamRow_length])]
  simp only [Wh.mk.injEq, true_and]
  refine ⟨by trivial, ?_⟩
  rw [if_neg (by omega)]
section
variable {N s : Nat}
theorem wl_S (N s : Nat) : (wlX N s).S.length = N := by simp [wlX, streamRow_length]
theorem wl_sent (h : s ≤ N) : (wlX N s).sent = s := by
  refine first_is (by simp only [wlX, stT_length h]; exact h) (fun k hk => ?_) (fun hk => ?_)
  · simp only [wlX]; rw [gd_stT, if_pos hk]; decide
  · simp only [wlX]; rw [gd_stT, if_neg (Nat.lt_irrefl _)]
theorem wl_first2 : first 2 (wlX N s).T = (wlX N s).T.length := by
  refine first_none (fun k hk => ?_)
  simp only [wlX]; rw [gd_stT]; split <;> decide
theorem wl_opn (h : s < N ∨ N = 0) : (wlX N s).opn = true := by
  have e : (wlX N s).ed = 0 := if_neg (by omega)
  unfold Wh.opn
  rw [e]; rfl
theorem wl_closed (h : s = N ∧ 0 < N) : (wlX N s).opn = false := by
  have e : (wlX N s).ed = 1 := if_pos h
  unfold Wh.opn
  rw [e]; rfl
/-- where the next frame ends -/
def wlT (N s most c : Nat) : Nat := s + min (N - s) (min most c)
theorem wl_next (h : s ≤ N) (most c : Nat) (h1 : 1 ≤ most) : (wlX N s).nextP most c = if (s < N ∧ 0 < c) ∨ N = 0 then some (s, wlT N s most c) else none := by
  unfold Wh.nextP
  rw [if_neg (by omega), if_neg (by rw [wl_first2]; omega), wl_sent h, wl_S]
  by_cases hc : s < N ∧ 0 < c
  · rw [if_pos ⟨hc.1, by omega, by omega⟩, if_pos (.inl hc)]
    unfold wlT
    congr 2; omega
  · rw [if_neg (fun hh => hc ⟨hh.1, by omega⟩)]
    by_cases h0 : N = 0
    · rw [if_pos ⟨by omega, wl_opn (.inr h0)⟩, if_pos (.inr h0)]
      unfold wlT
      congr 2; omega
    · rw [if_neg (c := _ ∨ _) (by omega)]
      by_cases hs : s = N
      · rw [if_neg (by rw [wl_closed ⟨hs, by omega⟩]; simp)]
      · rw [if_neg (by omega)]
theorem wl_frame {t : Nat} (h1 : s ≤ t) (h : t ≤ N) (h0 : s < N) : (wlX N s).frame s t = wlX N t := by
  unfold Wh.frame Wh.finT
  rw [wl_opn (.inl h0), wl_S]
  simp only [Bool.and_true, wlX, Wh.mk.injEq, true_and]
  refine ⟨?_, ?_⟩
  · refine ext_gd (by rw [setTo_length, stT_length (by omega), stT_length h]) (fun j hj => ?_)
    rw [setTo_length, stT_length (by omega)] at hj
    rw [gd_setTo _ _ _ _ _ (by rw [stT_length (by omega)]; omega), gd_stT, gd_stT]
    by_cases e : s ≤ j ∧ j < s + (t - s)
    · rw [if_pos e, if_pos (by omega)]
    · rw [if_neg e]
      by_cases e2 : j < s
      · rw [if_pos e2, if_pos (by omega)]
      · rw [if_neg e2, if_neg (by omega)]
  · by_cases e : t = N
    · rw [decide_eq_true e, if_pos rfl, if_pos ⟨e, by omega⟩]
    · rw [decide_eq_false e, if_neg (by decide), if_neg (by omega), if_neg (by omega)]
theorem wl_frameR {t : Nat} (h1 : s ≤ t) (h : t ≤ N) (h0 : s < N ∨ N = 0) : ∃ str : ByteArray, (wlX N s).frameR s t = mkFr 8 s str (decide (t = N)) ∧ s + str.size = t ∧ ∀ k, k < str.size → gd (bytesOf str) k = streamAt (s + k) := by
  unfold Wh.frameR Wh.finT
  rw [wl_opn h0, wl_S, Bool.and_true]
  have hl : ((streamRow N N).drop s |>.take (t - s)).length = t - s := by simp [streamRow_length]; omega
  refine ⟨_, rfl, ?_, fun k hk => ?_⟩
  · rw [strOfNums_size]; show s + ((streamRow N N).drop s |>.take (t - s)).length = t; omega
  · rw [strOfNums_size] at hk
    have hk2 : k < t - s := by rw [← hl]; exact hk
    show gd (bytesOf (strOfNums ((streamRow N N).drop s |>.take (t - s)))) k = _
    rw [bytes_str _ (fun x hx => streamRow_byte N N x (List.mem_of_mem_drop (List.mem_of_mem_take hx))), gd_take _ _ _ hk2, gd_drop, gd_streamRow (by omega)]
end
section
variable {W w w' : World} {b : Nat} {F : Nat → Prop} {X X' : Wh} {os os' : List (Nat × Obj)} {v : Value} {l : List Fr}
/-- blocks beside the buffer turn -/
theorem Sf.turns {T : Nat → Prop} (h : Sf W w b F X os v l) (hc : Chg T w w') (hT : ∀ k, T k → ∃ o, (k, o) ∈ os) (ho : ∀ p ∈ os', w'.heap[p.1]? = some p.2 ∧ ∃ o, (p.1, o) ∈ os) : Sf W w' b F X os' v l := by
  have hn : ∀ k, T k → ¬ F k ∧ W.heap.size ≤ k ∧ ∀ j, v.ownBlock = some j → k ≠ j := fun k hk => by
    obtain ⟨o, hm⟩ := hT k hk
    exact ⟨(h.far _ hm).2.1, (h.far _ hm).2.2, fun j hj => (h.apart j hj).2 _ hm⟩
  refine ⟨h.inv.chg hc (fun k hk e => (hn k e).1 hk), h.ok, fun k hk => ⟨(h.own k hk).1, Nat.lt_of_lt_of_le (h.own k hk).2 hc.size⟩, hc.toBelow h.below (fun k e => (hn k e).2.1), fun p hp => ?_, own_same' h.row (fun k hk => hc.block k (own_base' h.row k hk).2 (fun e => (hn k e).2.2 k hk rfl)), fun k hk => ⟨(h.apart k hk).1, fun p hp => ?_⟩⟩
  · obtain ⟨h1, o, h2⟩ := ho p hp
    exact ⟨h1, (h.far (p.1, o) h2).2⟩
  · obtain ⟨h1, o, h2⟩ := ho p hp
    exact (h.apart k hk).2 (p.1, o) h2
/-- the next frame -/
theorem sf_wl {N s : Nat} (h : Sf W w b F (wlX N s) os v l) (hs : s ≤ N) (most c : Nat) (h1 : 1 ≤ most) :
    Calls Tryd.prog 14 #[.pointer (some ⟨b, 0, none⟩), .int .i64 most, .int .i64 c] w fun e w' =>
      (((s < N ∧ 0 < c) ∨ N = 0) ∧ ∃ (t : Nat) (str : ByteArray), t = wlT N s most c ∧ s + str.size = t ∧ t ≤ N ∧ (∀ k, k < str.size → gd (bytesOf str) k = streamAt (s + k)) ∧ e = .returned (.tuple #[(mkFr 8 s str (decide (t = N))).val, .bool true]) ∧ ∃ F' X', (0 < N → X' = wlX N t) ∧ X'.sent = t ∧ Sf W w' b F' X' os v l) ∨
      (¬ ((s < N ∧ 0 < c) ∨ N = 0) ∧ e = .returned (.tuple #[fr0.val, .bool false]) ∧ ∃ F', Sf W w' b F' (wlX N s) os v l) := by
  refine (sf_next h most c).mono fun e w' hh => ?_
  rw [wl_next hs most c h1] at hh
  by_cases hc : (s < N ∧ 0 < c) ∨ N = 0
  · rw [if_pos hc] at hh
    have ht : s ≤ wlT N s most c ∧ wlT N s most c ≤ N := by unfold wlT; omega
    obtain ⟨str, e1, e2, e3⟩ := wl_frameR ht.1 ht.2 (s := s) (by omega)
    refine .inl ⟨hc, _, str, rfl, e2, ht.2, e3, ?_, ?_⟩
    · rw [hh.1]; simp only [Wh.nextR, e1]; rfl
    · obtain ⟨F', h2⟩ := hh.2
      refine ⟨F', _, fun h0 => ?_, ?_, h2⟩
      · exact wl_frame ht.1 ht.2 (by omega)
      · rcases hc with hc | hc
        · simp only [Wh.nextX]; rw [wl_frame ht.1 ht.2 hc.1]; exact wl_sent ht.2
        · subst hc
          have : wlT 0 s most c = 0 := by omega
          rw [this]
          have h3 := Wh.sent_le ((wlX 0 s).nextX (some (s, 0)))
          have h4 : ((wlX 0 s).nextX (some (s, 0))).T.length = 0 := by
            show (setTo _ _ _ _).length = 0
            rw [setTo_length]; show (stT s 0).length = 0; exact stT_length (by omega)
          omega
  · rw [if_neg hc] at hh
    exact .inr ⟨hc, hh.1, hh.2⟩
end
end Go.Proofs.YtpfkeohaaeiaaaaDoor
/- SendBufWithinLimits: wanted. -/
namespace Go.Proofs.YtpfkeohaaeiaaaaDoor
open Go.RowKit
set_option maxRecDepth 100000
/-- the frame that the reader waits for -/
def wantB (f : Fr) (a : Int) : Bool := (decide (f.off ≤ a) && decide (a < f.off + f.s.size)) || (f.fin && decide (a = f.off + f.s.size))
theorem grown_rowB {w w1 : World} {b : Nat} (h : w.grownBy w1 (some b)) (cs : Array Value) : w.grownBy (w1.setRow b cs) (some b) :=
  ⟨h.os, h.tape, h.output, by simpa using h.size, fun k hk hr => (setRow_other w1 b k cs (fun e => hr (by rw [e]))).trans (h.block k hk hr)⟩
theorem below_row {w w1 : World} (h : w.grownBy w1 (some w.heap.size)) (cs : Array Value) : Below w.heap.size w (w1.setRow w.heap.size cs) :=
  have h := grown_rowB h cs
  ⟨h.os, h.tape, h.output, h.size, fun k hk => h.block k hk (fun e => by cases e; exact Nat.lt_irrefl _ hk)⟩
set_option maxHeartbeats 4000000 in
theorem wanted_any (l : List Fr) (g cap : Nat) (a : Int) (w : World) (h : ∀ k f, l[k]? = some f → w.rangeAt g (k * 13) f.cells.toList) (h0 : 0 < l.length) (hn : l.length ≤ 2000) (hc : l.length ≤ cap) (_hcm : cap ≤ 9223372036854775807) (hb : ∀ f ∈ l, 0 ≤ f.off ∧ f.off ≤ 1000000 ∧ f.s.size ≤ 1000000) (ho : ∀ f ∈ l, f.cells.all (·.oneCell') = true) :
    Calls Tryd.prog 17 #[.slice (some ⟨g, 0, none⟩) l.length cap, .int .i64 a] w fun e w' => (∃ f, f ∈ l ∧ e = .returned f.val ∧ (wantB f a = true ∨ ∀ f' ∈ l, wantB f' a = false)) ∧ Below w.heap.size w w' := by
  have HH := Lib.hid h
  have HB := Lib.hid hb
  have HOO := Lib.hid ho
  clear h hb ho
  generalize hln : l.length = n at *
  go_enter Tryd.func17, Tryd.ntmps17
  go_wp2_with fail
  have X := Lib.hid (box1 w (.cells fr0.cells 43))
  go_loopw [5] (fun i wr => ∃ k : Nat, k ≤ n ∧ i = .int .i64 k ∧ (∀ j, j < k → ∀ f, l[j]? = some f → wantB f a = false) ∧ Blk w.heap.size fr0.cells 43 w wr) (fun i _ => n - (intOf i).toNat)
  case atStart => exact ⟨0, by omega, rfl, fun j hj => absurd hj (Nat.not_lt_zero j), X.out.1, World.grownBy_alloc _ _ _⟩
  case round =>
    obtain ⟨k, hk, rfl, hno, hbw⟩ := hrel
    have BW := Lib.hid hbw
    have NO := Lib.hid hno
    have HZ := Lib.hid hbw.1
    clear hno hbw
    by_cases hlt : k < n
    · obtain ⟨f, hf⟩ : ∃ f, l[k]? = some f := ⟨_, List.getElem?_eq_getElem (by omega)⟩
      have hfm := List.mem_of_getElem? hf
      obtain ⟨b1, b2, b3⟩ := HB.out f hfm
      have hgl : g ≠ w.heap.size := fun e => by
        have := World.block_lt_of_cell? _ _ (HH.out k f hf 0 (.int .i64 f.ty) rfl)
        simp only at this; omega
      have RA := Lib.hid (show wr.rangeAt g (k * 13) f.cells.toList from fun j u hu => (World.cell?_of_block (a := ⟨g, k * 13 + j, none⟩) (BW.out.2.block g (World.block_lt_of_cell? _ _ (HH.out k f hf j u hu)) (fun e => by cases e; exact hgl rfl))).trans (HH.out k f hf j u hu))
      have c2 := RA.out 2 (.int .i64 f.off) rfl
      have c3 := RA.out 3 (.string f.s) rfl
      have c4 := RA.out 4 (.bool f.fin) rfl
      have e1 : IntKind.i64.wrap (f.off + (f.s.size : Int)) = f.off + (f.s.size : Int) := IntWalk.i64_in _ (by omega)
      have k0 : (0 : Int) ≤ (k : Int) := by omega
      have k1 : (k : Int) < (n : Int) := by omega
      obtain ⟨e, he⟩ : ∃ e, f.off + (f.s.size : Int) = e := ⟨_, rfl⟩
      have HW := Lib.hid (show wantB f a = ((decide (f.off ≤ a) && decide (a < e)) || (f.fin && decide (a = e))) from by unfold wantB; rw [he])
      have HO := Lib.hid (HOO.out f hfm)
      have NX := Lib.hid (fun (hm : wantB f a = false) => (show ∀ j, j < k + 1 → ∀ f', l[j]? = some f' → wantB f' a = false from fun j hj f' hf' => by
        by_cases h : j = k
        · subst h; rw [hf] at hf'; cases hf'; exact hm
        · exact NO.out j (by omega) f' hf'))
      by_cases d1 : f.off ≤ a
      · by_cases d2 : a < e
        · have hm := Lib.hid (show wantB f a = true from by rw [HW.out, decide_eq_true d1, decide_eq_true d2]; rfl)
          have d1b : decide (f.off ≤ a) = true := decide_eq_true d1
          have d2b : decide (a < e) = true := decide_eq_true d2
          go_wp2_with fail
          go_quiet (fail)
          go_wp2_with (first | (refine wpList_load_fr rfl _ rfl f g (k * 13) rfl (by exact RA.out) ?_) | (refine wpList_store_row rfl 43 (.tmp 4) (.tmp 52) rfl w.heap.size f.cells rfl rfl 43 fr0.cells (by exact (BW.out.drewN _).1) (size43 f) rfl (by exact HO.out) ?_))
          refine bodyPost_ret (v := f.val) (results_cell_row rfl _ _ w.heap.size 43 _ (0, 0) _ rfl (setRow_heap _ _ _ _ 43 _ (BW.out.drewN _).1) Tryd.underlying43 rfl (size43 f)) rfl ⟨⟨f, hfm, rfl, .inl hm.out⟩, ?_⟩
          exact below_row (BW.out.drewN _).2 _
        · have d2b : (a < e) = False := eq_false d2
          cases hfn : f.fin
          · rw [hfn] at c4
            have hm := Lib.hid (show wantB f a = false from by rw [HW.out, decide_eq_true d1, decide_eq_false d2, hfn]; rfl)
            go_wp2_with fail
            go_quiet (fail)
            go_wp2
            go_roundw
            case rel => exact ⟨k + 1, by omega, by go_num, NX.out hm.out, BW.out.drewN _⟩
            case measure => simp [intOf]; omega
          · rw [hfn] at c4
            by_cases d4 : a = e
            · have d4b : (a == e) = true := beq_iff_eq.2 d4
              have d1c : f.off ≤ e := by omega
              have d1d : decide (f.off ≤ e) = true := decide_eq_true d1c
              have hm := Lib.hid (show wantB f a = true from by rw [HW.out, decide_eq_true d1, decide_eq_false d2, hfn, decide_eq_true d4]; rfl)
              go_wp2_with fail
              go_quiet (fail)
              go_wp2_with (first | (refine wpList_load_fr rfl _ rfl f g (k * 13) rfl (by exact RA.out) ?_) | (refine wpList_store_row rfl 43 (.tmp 4) (.tmp 52) rfl w.heap.size f.cells rfl rfl 43 fr0.cells (by exact (BW.out.drewN _).1) (size43 f) rfl (by exact HO.out) ?_))
              refine bodyPost_ret (v := f.val) (results_cell_row rfl _ _ w.heap.size 43 _ (0, 0) _ rfl (setRow_heap _ _ _ _ 43 _ (BW.out.drewN _).1) Tryd.underlying43 rfl (size43 f)) rfl ⟨⟨f, hfm, rfl, .inl hm.out⟩, ?_⟩
              exact below_row (BW.out.drewN _).2 _
            · have d4b : (a == e) = false := beq_eq_false_iff_ne.2 d4
              have hm := Lib.hid (show wantB f a = false from by rw [HW.out, decide_eq_true d1, decide_eq_false d2, hfn, decide_eq_false d4]; rfl)
              go_wp2_with fail
              go_quiet (fail)
              go_wp2
              go_roundw
              case rel => exact ⟨k + 1, by omega, by go_num, NX.out hm.out, BW.out.drewN _⟩
              case measure => simp [intOf]; omega
      · have d1b : (f.off ≤ a) = False := eq_false d1
        cases hfn : f.fin
        · rw [hfn] at c4
          have hm := Lib.hid (show wantB f a = false from by rw [HW.out, decide_eq_false d1, hfn]; rfl)
          go_wp2_with fail
          go_quiet (fail)
          go_wp2
          go_roundw
          case rel => exact ⟨k + 1, by omega, by go_num, NX.out hm.out, BW.out.drewN _⟩
          case measure => simp [intOf]; omega
        · rw [hfn] at c4
          by_cases d4 : a = e
          · exfalso; omega
          · have d4b : (a == e) = false := beq_eq_false_iff_ne.2 d4
            have hm := Lib.hid (show wantB f a = false from by rw [HW.out, decide_eq_false d1, hfn, decide_eq_false d4]; rfl)
            go_wp2_with fail
            go_quiet (fail)
            go_wp2
            go_roundw
            case rel => exact ⟨k + 1, by omega, by go_num, NX.out hm.out, BW.out.drewN _⟩
            case measure => simp [intOf]; omega
    · obtain rfl : k = n := by omega
      obtain ⟨m, hm0⟩ : ∃ m, k = m + 1 := ⟨k - 1, by omega⟩
      obtain ⟨f, hf⟩ : ∃ f, l[m]? = some f := ⟨_, List.getElem?_eq_getElem (by omega)⟩
      have hfm := List.mem_of_getElem? hf
      have hgl : g ≠ w.heap.size := fun e => by
        have := World.block_lt_of_cell? _ _ (HH.out m f hf 0 (.int .i64 f.ty) rfl)
        simp only at this; omega
      have RA := Lib.hid (show wr.rangeAt g (m * 13) f.cells.toList from fun j u hu => (World.cell?_of_block (a := ⟨g, m * 13 + j, none⟩) (BW.out.2.block g (World.block_lt_of_cell? _ _ (HH.out m f hf j u hu)) (fun e => by cases e; exact hgl rfl))).trans (HH.out m f hf j u hu))
      have HO := Lib.hid (HOO.out f hfm)
      have NA := Lib.hid (show ∀ f' ∈ l, wantB f' a = false from fun f' hf' => by
        obtain ⟨j, hj, e⟩ := List.getElem_of_mem hf'
        exact NO.out j (by omega) f' (by rw [← e]; exact List.getElem?_eq_getElem hj))
      have e1 : IntKind.i64.wrap ((k : Int) - 1) = (m : Int) := by rw [IntWalk.i64_in _ (by omega)]; omega
      have k0 : (0 : Int) ≤ (m : Int) := by omega
      have k1 : (m : Int) < (k : Int) := by omega
      have k2 : decide ((k : Int) < (k : Int)) = false := decide_eq_false (by omega)
      have k3 : m < k := by omega
      clear hm0 hf
      go_wp2_with (first | (refine wpList_load_fr rfl _ rfl f g (m * 13) rfl (by exact RA.out) ?_) | (refine wpList_store_row rfl 43 (.tmp 4) (.tmp 58) rfl w.heap.size f.cells rfl rfl 43 fr0.cells (by exact BW.out.1) (size43 f) rfl (by exact HO.out) ?_))
      refine bodyPost_ret (v := f.val) (results_cell_row rfl _ _ w.heap.size 43 _ (0, 0) _ rfl (setRow_heap _ _ _ _ 43 _ BW.out.1) Tryd.underlying43 rfl (size43 f)) rfl ⟨⟨f, hfm, rfl, .inr NA.out⟩, ?_⟩
      exact below_row BW.out.2 _
end Go.Proofs.YtpfkeohaaeiaaaaDoor
/- The law's calls (CallParams), as they come in: opened to plain data. -/
namespace Go.Proofs.YtpfkeohaaeiaaaaDoor
open Go.RowKit Go.ChangeShapes Go.WideShapes Go.Deep
set_option maxRecDepth 100000
structure I64 (n : Int) : Prop where
  lo : -9223372036854775808 ≤ n
  hi : n ≤ 9223372036854775807
theorem I64.of {n : Int} (h : (Lit.int .i64 n).wf = true) : I64 n := ⟨(bounds_i64 h).1, (bounds_i64 h).2⟩
structure FrWf (f : Fr) : Prop where
  ty : I64 f.ty
  str : I64 f.str
  off : I64 f.off
  s : f.s.size ≤ maxLen
  max : I64 f.max
  code : I64 f.code
  delay : I64 f.delay
  seq : I64 f.seq
  retire : I64 f.retire
  cid : f.cid.size ≤ maxLen
  ranges : f.ranges.oneCell' = true
structure Cp where
  kind : Int
  n : Int
  credit : Int
  s : ByteArray
  which : Int
  f : Fr
def Cp.cells (c : Cp) : List Value := [.int .i64 c.kind, .int .i64 c.n, .int .i64 c.credit, .string c.s, .int .i64 c.which] ++ c.f.cells.toList
structure CpWf (c : Cp) : Prop where
  kind : I64 c.kind
  n : I64 c.n
  credit : I64 c.credit
  s : c.s.size ≤ maxLen
  which : I64 c.which
  f : FrWf c.f
section
variable {H : Type} {enc : TypeId × Value → H} {w : World} {base : Nat} {spare : Nat → Bool} {held : Bool}
theorem cellsOf3 : Tryd.prog.cellsOf 3 = 1 := by kernel_rfl
theorem cellsOf4 : Tryd.prog.cellsOf 4 = 1 := by kernel_rfl
theorem cellsOf9 : Tryd.prog.cellsOf 9 = 1 := by kernel_rfl
theorem cellsOf33 : Tryd.prog.cellsOf 41 = 1 := by kernel_rfl
theorem cellsOf35 : Tryd.prog.cellsOf 43 = 13 := by kernel_rfl
theorem cellsOf44 : Tryd.prog.cellsOf 45 = 18 := by kernel_rfl
theorem split1 {cs : List Value} {n : Nat} (h : cs.length = n + 1) : ∃ c l, cs = c :: l ∧ l.length = n := by
  cases cs with
  | nil => simp at h
  | cons c l => exact ⟨c, l, rfl, by simpa using h⟩
theorem get_some {α : Type} {xs : List α} {n i : Nat} (h : xs.length = n) (hi : i < n) : ∃ y, xs[i]? = some y := ⟨xs[i]'(by omega), by simp [h, hi]⟩
theorem open_fr {fuel : Nat} {cs : List Value} {x : DataW H × List MemPlace} (h : DataW.trod enc Tryd.prog w base spare held fuel 43 cs = some x) : ∃ f : Fr, cs = f.cells.toList ∧ FrWf f := by
  obtain ⟨xs, n, _, _, hlen, hxl, hf⟩ := DataW.trod_struct Tryd.underlying43 h
  rw [cellsOf35] at hlen
  replace hxl : xs.length = 13 := hxl
  obtain ⟨a0, l0, rfl, hlen0⟩ := split1 hlen
  obtain ⟨a1, l1, rfl, hlen1⟩ := split1 hlen0
  obtain ⟨a2, l2, rfl, hlen2⟩ := split1 hlen1
  obtain ⟨a3, l3, rfl, hlen3⟩ := split1 hlen2
  obtain ⟨a4, l4, rfl, hlen4⟩ := split1 hlen3
  obtain ⟨a5, l5, rfl, hlen5⟩ := split1 hlen4
  obtain ⟨a6, l6, rfl, hlen6⟩ := split1 hlen5
  obtain ⟨a7, l7, rfl, hlen7⟩ := split1 hlen6
  obtain ⟨a8, l8, rfl, hlen8⟩ := split1 hlen7
  obtain ⟨a9, l9, rfl, hlen9⟩ := split1 hlen8
  obtain ⟨a10, l10, rfl, hlen10⟩ := split1 hlen9
  obtain ⟨a11, l11, rfl, hlen11⟩ := split1 hlen10
  obtain ⟨a12, l12, rfl, hlen12⟩ := split1 hlen11
  obtain rfl := List.eq_nil_of_length_eq_zero hlen12
  have h0 := hf 0 _ rfl
  obtain ⟨y0, e0⟩ := get_some hxl (show 0 < 13 by decide)
  rw [e0] at h0
  replace h0 : DataW.trod enc Tryd.prog w base spare held n 3 [a0] = some y0 := h0
  obtain ⟨z0, ez0, _, hw0⟩ := DataW.trod_int Tryd.underlying3 h0
  obtain rfl : a0 = .int .i64 z0 := by simpa using ez0
  have h1 := hf 1 _ rfl
  obtain ⟨y1, e1⟩ := get_some hxl (show 1 < 13 by decide)
  rw [e1] at h1
  replace h1 : DataW.trod enc Tryd.prog w base spare held n 3 [a1] = some y1 := h1
  obtain ⟨z1, ez1, _, hw1⟩ := DataW.trod_int Tryd.underlying3 h1
  obtain rfl : a1 = .int .i64 z1 := by simpa using ez1
  have h2 := hf 2 _ rfl
  obtain ⟨y2, e2⟩ := get_some hxl (show 2 < 13 by decide)
  rw [e2] at h2
  replace h2 : DataW.trod enc Tryd.prog w base spare held n 3 [a2] = some y2 := h2
  obtain ⟨z2, ez2, _, hw2⟩ := DataW.trod_int Tryd.underlying3 h2
  obtain rfl : a2 = .int .i64 z2 := by simpa using ez2
  have h3 := hf 3 _ rfl
  obtain ⟨y3, e3⟩ := get_some hxl (show 3 < 13 by decide)
  rw [e3] at h3
  replace h3 : DataW.trod enc Tryd.prog w base spare held n 9 [a3] = some y3 := h3
  obtain ⟨z3, ez3, _, hw3⟩ := DataW.trod_string Tryd.underlying9 h3
  obtain rfl : a3 = .string z3 := by simpa using ez3
  have h4 := hf 4 _ rfl
  obtain ⟨y4, e4⟩ := get_some hxl (show 4 < 13 by decide)
  rw [e4] at h4
  replace h4 : DataW.trod enc Tryd.prog w base spare held n 4 [a4] = some y4 := h4
  obtain ⟨z4, ez4, _⟩ := DataW.trod_bool Tryd.underlying4 h4
  obtain rfl : a4 = .bool z4 := by simpa using ez4
  have h5 := hf 5 _ rfl
  obtain ⟨y5, e5⟩ := get_some hxl (show 5 < 13 by decide)
  rw [e5] at h5
  replace h5 : DataW.trod enc Tryd.prog w base spare held n 3 [a5] = some y5 := h5
  obtain ⟨z5, ez5, _, hw5⟩ := DataW.trod_int Tryd.underlying3 h5
  obtain rfl : a5 = .int .i64 z5 := by simpa using ez5
  have h6 := hf 6 _ rfl
  obtain ⟨y6, e6⟩ := get_some hxl (show 6 < 13 by decide)
  rw [e6] at h6
  replace h6 : DataW.trod enc Tryd.prog w base spare held n 3 [a6] = some y6 := h6
  obtain ⟨z6, ez6, _, hw6⟩ := DataW.trod_int Tryd.underlying3 h6
  obtain rfl : a6 = .int .i64 z6 := by simpa using ez6
  have h7 := hf 7 _ rfl
  obtain ⟨y7, e7⟩ := get_some hxl (show 7 < 13 by decide)
  rw [e7] at h7
  replace h7 : DataW.trod enc Tryd.prog w base spare held n 4 [a7] = some y7 := h7
  obtain ⟨z7, ez7, _⟩ := DataW.trod_bool Tryd.underlying4 h7
  obtain rfl : a7 = .bool z7 := by simpa using ez7
  have h8 := hf 8 _ rfl
  obtain ⟨y8, e8⟩ := get_some hxl (show 8 < 13 by decide)
  rw [e8] at h8
  replace h8 : DataW.trod enc Tryd.prog w base spare held n 3 [a8] = some y8 := h8
  obtain ⟨z8, ez8, _, hw8⟩ := DataW.trod_int Tryd.underlying3 h8
  obtain rfl : a8 = .int .i64 z8 := by simpa using ez8
  have h9 := hf 9 _ rfl
  obtain ⟨y9, e9⟩ := get_some hxl (show 9 < 13 by decide)
  rw [e9] at h9
  replace h9 : DataW.trod enc Tryd.prog w base spare held n 41 [a9] = some y9 := h9
  have hw9 : a9.oneCell' = true := by
    rcases open_slice Tryd.underlying41 h9 with ⟨ez, _⟩ | ⟨_, _, _, _, _, _, _, ez, _⟩
    · obtain rfl : a9 = .slice none 0 0 := by simpa using ez
      rfl
    · simp only [List.cons.injEq, and_true] at ez; rw [ez]; rfl
  have h10 := hf 10 _ rfl
  obtain ⟨y10, e10⟩ := get_some hxl (show 10 < 13 by decide)
  rw [e10] at h10
  replace h10 : DataW.trod enc Tryd.prog w base spare held n 3 [a10] = some y10 := h10
  obtain ⟨z10, ez10, _, hw10⟩ := DataW.trod_int Tryd.underlying3 h10
  obtain rfl : a10 = .int .i64 z10 := by simpa using ez10
  have h11 := hf 11 _ rfl
  obtain ⟨y11, e11⟩ := get_some hxl (show 11 < 13 by decide)
  rw [e11] at h11
  replace h11 : DataW.trod enc Tryd.prog w base spare held n 3 [a11] = some y11 := h11
  obtain ⟨z11, ez11, _, hw11⟩ := DataW.trod_int Tryd.underlying3 h11
  obtain rfl : a11 = .int .i64 z11 := by simpa using ez11
  have h12 := hf 12 _ rfl
  obtain ⟨y12, e12⟩ := get_some hxl (show 12 < 13 by decide)
  rw [e12] at h12
  replace h12 : DataW.trod enc Tryd.prog w base spare held n 9 [a12] = some y12 := h12
  obtain ⟨z12, ez12, _, hw12⟩ := DataW.trod_string Tryd.underlying9 h12
  obtain rfl : a12 = .string z12 := by simpa using ez12
  exact ⟨⟨z0, z1, z2, z3, z4, z5, z6, z7, z8, a9, z10, z11, z12⟩, rfl, ⟨I64.of hw0, I64.of hw1, I64.of hw2, hw3, I64.of hw5, I64.of hw6, I64.of hw8, I64.of hw10, I64.of hw11, hw12, hw9⟩⟩
theorem open_cp {fuel : Nat} {cs : List Value} {x : DataW H × List MemPlace} (h : DataW.trod enc Tryd.prog w base spare held fuel 45 cs = some x) : ∃ c : Cp, cs = c.cells ∧ CpWf c := by
  obtain ⟨xs, n, _, _, hlen, hxl, hf⟩ := DataW.trod_struct Tryd.underlying45 h
  rw [cellsOf44] at hlen
  replace hxl : xs.length = 6 := hxl
  obtain ⟨a0, l0, rfl, hlen0⟩ := split1 hlen
  obtain ⟨a1, l1, rfl, hlen1⟩ := split1 hlen0
  obtain ⟨a2, l2, rfl, hlen2⟩ := split1 hlen1
  obtain ⟨a3, l3, rfl, hlen3⟩ := split1 hlen2
  obtain ⟨a4, l4, rfl, hlen4⟩ := split1 hlen3
  have h0 := hf 0 _ rfl
  obtain ⟨y0, e0⟩ := get_some hxl (show 0 < 6 by decide)
  rw [e0] at h0
  replace h0 : DataW.trod enc Tryd.prog w base spare held n 3 [a0] = some y0 := h0
  obtain ⟨z0, ez0, _, hw0⟩ := DataW.trod_int Tryd.underlying3 h0
  obtain rfl : a0 = .int .i64 z0 := by simpa using ez0
  have h1 := hf 1 _ rfl
  obtain ⟨y1, e1⟩ := get_some hxl (show 1 < 6 by decide)
  rw [e1] at h1
  replace h1 : DataW.trod enc Tryd.prog w base spare held n 3 [a1] = some y1 := h1
  obtain ⟨z1, ez1, _, hw1⟩ := DataW.trod_int Tryd.underlying3 h1
  obtain rfl : a1 = .int .i64 z1 := by simpa using ez1
  have h2 := hf 2 _ rfl
  obtain ⟨y2, e2⟩ := get_some hxl (show 2 < 6 by decide)
  rw [e2] at h2
  replace h2 : DataW.trod enc Tryd.prog w base spare held n 3 [a2] = some y2 := h2
  obtain ⟨z2, ez2, _, hw2⟩ := DataW.trod_int Tryd.underlying3 h2
  obtain rfl : a2 = .int .i64 z2 := by simpa using ez2
  have h3 := hf 3 _ rfl
  obtain ⟨y3, e3⟩ := get_some hxl (show 3 < 6 by decide)
  rw [e3] at h3
  replace h3 : DataW.trod enc Tryd.prog w base spare held n 9 [a3] = some y3 := h3
  obtain ⟨z3, ez3, _, hw3⟩ := DataW.trod_string Tryd.underlying9 h3
  obtain rfl : a3 = .string z3 := by simpa using ez3
  have h4 := hf 4 _ rfl
  obtain ⟨y4, e4⟩ := get_some hxl (show 4 < 6 by decide)
  rw [e4] at h4
  replace h4 : DataW.trod enc Tryd.prog w base spare held n 3 [a4] = some y4 := h4
  obtain ⟨z4, ez4, _, hw4⟩ := DataW.trod_int Tryd.underlying3 h4
  obtain rfl : a4 = .int .i64 z4 := by simpa using ez4
  have h5 := hf 5 _ rfl
  obtain ⟨y5, e5⟩ := get_some hxl (show 5 < 6 by decide)
  rw [e5] at h5
  replace h5 : DataW.trod enc Tryd.prog w base spare held n 43 (l4.take (Tryd.prog.cellsOf 43)) = some y5 := h5
  rw [cellsOf35, List.take_of_length_le (by omega)] at h5
  obtain ⟨f, rfl, hwf⟩ := open_fr h5
  exact ⟨⟨z0, z1, z2, z3, z4, f⟩, rfl, ⟨I64.of hw0, I64.of hw1, I64.of hw2, hw3, I64.of hw4, hwf⟩⟩
end
/-- a slice of calls -/
def CpsAt (w : World) (v : Value) (l : List Cp) : Prop := (l = [] ∧ ∃ a cap, v = .slice a 0 cap) ∨
  ∃ b off cap, v = .slice (some ⟨b, off, none⟩) l.length cap ∧ 0 < l.length ∧ l.length ≤ cap ∧ cap ≤ maxLen ∧ ∀ i c, l[i]? = some c → w.rangeAt b (off + i * 18) c.cells
instance : Inhabited Cp := ⟨⟨0, 0, 0, ⟨#[]⟩, 0, fr0⟩⟩
theorem cps_at {H : Type} {enc : TypeId × Value → H} {W : World} {base : Nat} {held : Bool} {v : Value} {d : DataW H} {p : List MemPlace} (hv : Value.okWide Tryd.prog W .any base 22 v)
    (h : DataW.Trod enc Tryd.prog W 0 (fun _ => true) held 22 v d p) : ∃ l, CpsAt W v l ∧ l.length ≤ maxLen ∧ ∀ c ∈ l, CpWf c := by
  obtain ⟨a0, len, cap, rfl⟩ := okWide_slice Tryd.underlying22 hv
  obtain ⟨fuel, hf'⟩ := h
  rcases open_slice Tryd.underlying22 hf' with ⟨hcs, hx⟩ | ⟨a, len', cap', m, n, D, Pl, hcs, _, hl, hm, hmm, hx, hall⟩
  · simp [Value.cells] at hcs
    obtain ⟨rfl, rfl, rfl⟩ := hcs
    exact ⟨[], .inl ⟨rfl, _, _, rfl⟩, by simp, by simp⟩
  · simp [Value.cells] at hcs
    obtain ⟨rfl, rfl, rfl⟩ := hcs
    simp only [if_true] at hmm
    rcases Nat.eq_zero_or_pos len with h0 | h0
    · subst h0
      exact ⟨[], .inl ⟨rfl, _, _, rfl⟩, by simp, by simp⟩
    · have one : ∀ i, ∃ c : Cp, i < len → (∀ j u, c.cells[j]? = some u → W.cell? ((a.add (i * 18)).add j) = some u) ∧ CpWf c := by
        intro i
        by_cases hi : i < len
        · obtain ⟨cs', hc, ht'⟩ := hall i (by omega)
          obtain ⟨c, rfl, hw⟩ := open_cp ht'
          rw [cellsOf44] at hc
          obtain ⟨_, hcl, hat⟩ := World.cells?_some hc
          refine ⟨c, fun _ => ⟨fun j u hu => ?_, hw⟩⟩
          have hj : j < 18 := by have := (List.getElem?_eq_some_iff.1 hu).1; rw [hcl] at this; exact this
          rw [hat j hj]; exact hu
        · exact ⟨default, fun h => absurd h hi⟩
      obtain ⟨g, hg⟩ := Classical.axiomOfChoice one
      have hsp : a.spot = none := by
        have := cell_spot ((hg 0 h0).1 0 _ rfl)
        have := congrArg Addr.spot this
        simpa [Addr.add] using this
      obtain ⟨b, o, s⟩ := a
      obtain rfl : s = none := hsp
      have hlen : ((List.range len).map g).length = len := by simp
      refine ⟨(List.range len).map g, .inr ⟨b, o, cap, by rw [hlen], by omega, by omega, hm, fun i c hi j u hu => ?_⟩, by omega, fun c hc => ?_⟩
      · have hil : i < len := by have := (List.getElem?_eq_some_iff.1 hi).1; omega
        have : c = g i := by simpa [List.getElem?_map, List.getElem?_range hil] using hi.symm
        subst this
        have := (hg i hil).1 j u hu
        rw [add_plain, add_plain] at this
        exact this
      · obtain ⟨i, hi, rfl⟩ := List.mem_map.1 hc
        exact (hg i (by simpa using hi)).2
theorem CpsAt.below {w w' : World} {v : Value} {l : List Cp} (h : CpsAt w v l) (hb : Below w.heap.size w w') : CpsAt w' v l := by
  rcases h with h | ⟨b, off, cap, h1, h2, h3, h4, h5⟩
  · exact .inl h
  · exact .inr ⟨b, off, cap, h1, h2, h3, h4, fun i c hi j u hu => (hb.cell (p := ⟨b, off + i * 18 + j, none⟩) (World.block_lt_of_cell? _ _ (h5 i c hi j u hu))).trans (h5 i c hi j u hu)⟩
theorem CpsAt.form {w : World} {v : Value} {l : List Cp} (h : CpsAt w v l) : ∃ a cap, v = .slice a l.length cap := by
  rcases h with ⟨rfl, a, cap, rfl⟩ | ⟨b, off, cap, rfl, _⟩
  · exact ⟨_, _, rfl⟩
  · exact ⟨_, _, rfl⟩
end Go.Proofs.YtpfkeohaaeiaaaaDoor
/- SendBufWithinLimits: the send buffer, the receive buffer, both sides' flow control and a row of frames, of the call's own: the contracts. -/
namespace Go.Proofs.YtpfkeohaaeiaaaaDoor
open Go.RowKit
/-! a call (CallParams) in its variable -/
theorem size45 (c : Cp) : (Tryd.prog.info? 45).map (·.size) = some c.cells.length := by kernel_rfl
def cpO (c : Cp) : Obj := .cells c.cells.toArray 45 (0, 0)
theorem one_cp {c : Cp} (h : CpWf c) : c.cells.toArray.all (·.oneCell') = true := by
  have := h.f.ranges
  simp [Cp.cells, Fr.cells, Value.oneCell']
  exact this
theorem wpList_load_cp {ops : Array Oper} {rest : List Oper} {o : Oper} {a : Act} {w : World} {Q : Exit → Act → World → Prop} (hgd : o.guard = none) (x : Operand) (ho : o.op = .load 45 x) (c : Cp)
    (g k : Nat) (hx : a.eval x = .pointer (some ⟨g, k, none⟩)) (hc : w.rangeAt g k c.cells)
    (h : wpList Tryd.prog ops Q rest (a.put o.dst (.agg c.cells.toArray)) w) : wpList Tryd.prog ops Q (o :: rest) a w :=
  wpList_load_mid hgd 45 x ho g k hx c.cells _ hc Tryd.underlying45 rfl (size45 c) h
theorem size45' (c : Cp) : (Tryd.prog.info? 45).map (·.size) = some c.cells.toArray.size := by kernel_rfl
theorem wpList_store_cp {ops : Array Oper} {rest : List Oper} {o : Oper} {a : Act} {w : World} {Q : Exit → Act → World → Prop} (hgd : o.guard = none) (x y : Operand) (ho : o.op = .store 45 x y) (c : Cp) (h1 : c.cells.toArray.all (·.oneCell') = true)
    (cs : Array Value) (hcs : cs.size = 18) (hx : a.eval x = .pointer (some ⟨w.heap.size, 0, none⟩)) (hy : a.eval y = .agg c.cells.toArray)
    (h : wpList Tryd.prog ops Q rest (a.put o.dst undef) (w.alloc (.cells c.cells.toArray 45))) : wpList Tryd.prog ops Q (o :: rest) a (w.alloc (.cells cs 45)) :=
  wpList_store_row hgd 45 x y ho w.heap.size c.cells.toArray hx hy 45 cs (heap_alloc_new _ _) (size45' c) hcs h1 (by rw [World.setRow_alloc_new]; exact h)
structure CpBox (w : World) (g : Nat) (c : Cp) : Prop where
  d0 : w.cell? ⟨g, 0, none⟩ = some (.int .i64 c.kind)
  d1 : w.cell? ⟨g, 1, none⟩ = some (.int .i64 c.n)
  d2 : w.cell? ⟨g, 2, none⟩ = some (.int .i64 c.credit)
  d4 : w.cell? ⟨g, 4, none⟩ = some (.int .i64 c.which)
theorem CpBox.of {w : World} {g : Nat} {c : Cp} (h : w.heap[g]? = some (cpO c)) : CpBox w g c := ⟨cell_whole h 0, cell_whole h 1, cell_whole h 2, cell_whole h 4⟩
/-- what a round needs of its call -/
structure CpI (c : Cp) : Prop where
  kind : I64 c.kind
  n : I64 c.n
  credit : I64 c.credit
  which : I64 c.which
theorem CpWf.i {c : Cp} (h : CpWf c) : CpI c := ⟨h.kind, h.n, h.credit, h.which⟩
/-- the call that a round makes up itself -/
def cpK (k : Nat) : Cp := ⟨k, 50, 0, ⟨#[]⟩, k, fr0⟩
theorem cpK_i {k : Nat} (h : k ≤ 2000) : CpI (cpK k) := ⟨⟨by simp only [cpK]; omega, by simp only [cpK]; omega⟩, ⟨by simp only [cpK]; omega, by simp only [cpK]; omega⟩, ⟨by simp only [cpK]; omega, by simp only [cpK]; omega⟩, ⟨by simp only [cpK]; omega, by simp only [cpK]; omega⟩⟩
theorem one_cpK (k : Nat) : (cpK k).cells.toArray.all (·.oneCell') = true := by simp [cpK, Cp.cells, Fr.cells, Value.oneCell', fr0, mkFr]
/-- the five blocks beside the send buffer, and others -/
abbrev wdO (bi g1 g2 br bs : Nat) (R : rea.Rb) (rm wi hi rd sm us : Int) (os : List (Nat × Obj)) : List (Nat × Obj) :=
  (bi, .cells (R.cells g1 g2) 68 (0, 0)) :: (g1, rea.u8s R.bs) :: (g2, rea.bls R.hs) :: (br, .cells (flo.rcC rm wi hi rd) 72 (0, 0)) :: (bs, .cells (flo.snC sm us 0) 74 (0, 0)) :: os
/-- all of them, of the call's own -/
structure Wd (W w : World) (b bi g1 g2 br bs : Nat) (F : Nat → Prop) (X : Wh) (R : rea.Rb) (rm wi hi rd sm us : Int) (os : List (Nat × Obj)) (v : Value) (l : List Fr) : Prop where
  sf : Sf W w b F X (wdO bi g1 g2 br bs R rm wi hi rd sm us os) v l
  hl : R.hs.length = R.bs.length
  sz : R.bs.length ≤ 8192
  ne : ((wdO bi g1 g2 br bs R rm wi hi rd sm us os).map Prod.fst).Nodup
section
variable {W w w' : World} {b bi g1 g2 br bs : Nat} {F F' : Nat → Prop} {X X' : Wh} {R R' : rea.Rb} {rm wi hi rd sm us rm' wi' hi' rd' sm' us' : Int} {os : List (Nat × Obj)} {v v' : Value} {l l' : List Fr}
theorem Wd.rb (h : Wd W w b bi g1 g2 br bs F X R rm wi hi rd sm us os v l) : rea.RbAt w bi g1 g2 R :=
  ⟨(h.sf.far (bi, .cells (R.cells g1 g2) 68 (0, 0)) (by simp)).1, (h.sf.far (g1, rea.u8s R.bs) (by simp)).1, (h.sf.far (g2, rea.bls R.hs) (by simp)).1, h.hl, h.sz⟩
theorem Wd.rv (h : Wd W w b bi g1 g2 br bs F X R rm wi hi rd sm us os v l) : w.heap[br]? = some (.cells (flo.rcC rm wi hi rd) 72 (0, 0)) := (h.sf.far (br, .cells (flo.rcC rm wi hi rd) 72 (0, 0)) (by simp)).1
theorem Wd.sn (h : Wd W w b bi g1 g2 br bs F X R rm wi hi rd sm us os v l) : w.heap[bs]? = some (.cells (flo.snC sm us 0) 74 (0, 0)) := (h.sf.far (bs, .cells (flo.snC sm us 0) 74 (0, 0)) (by simp)).1
theorem Wd.step (h : Wd W w b bi g1 g2 br bs F X R rm wi hi rd sm us os v l) (h2 : Sf W w' b F' X' (wdO bi g1 g2 br bs R rm wi hi rd sm us os) v' l') : Wd W w' b bi g1 g2 br bs F' X' R rm wi hi rd sm us os v' l' := ⟨h2, h.hl, h.sz, h.ne⟩
theorem Wd.same (h : Wd W w b bi g1 g2 br bs F X R rm wi hi rd sm us os v l) (hb : Below w.heap.size w w') : Wd W w' b bi g1 g2 br bs F X R rm wi hi rd sm us os v l := h.step (h.sf.same hb)
theorem Wd.drewN (h : Wd W w b bi g1 g2 br bs F X R rm wi hi rd sm us os v l) (n : Nat) : Wd W (w.drewN n) b bi g1 g2 br bs F X R rm wi hi rd sm us os v l := h.same (belowN (Below.refl _ w) n)
theorem Wd.mem (h : Wd W w b bi g1 g2 br bs F X R rm wi hi rd sm us os v l) {p : Nat × Obj} (hp : p ∈ os) : w.heap[p.1]? = some p.2 := (h.sf.far p (by simp [hp])).1
/-- one more block -/
theorem Wd.alloc (h : Wd W w b bi g1 g2 br bs F X R rm wi hi rd sm us os v l) (o : Obj) : Wd W (w.alloc o) b bi g1 g2 br bs F X R rm wi hi rd sm us ((w.heap.size, o) :: os) v l := by
  have h1 := h.sf.alloc o
  refine ⟨h1.sub (fun p hp => ?_), h.hl, h.sz, ?_⟩
  · simp only [wdO, List.mem_cons] at hp ⊢
    rcases hp with hp | hp | hp | hp | hp | hp | hp
    · exact .inr (.inl hp)
    · exact .inr (.inr (.inl hp))
    · exact .inr (.inr (.inr (.inl hp)))
    · exact .inr (.inr (.inr (.inr (.inl hp))))
    · exact .inr (.inr (.inr (.inr (.inr (.inl hp)))))
    · exact .inl hp
    · exact .inr (.inr (.inr (.inr (.inr (.inr hp)))))
  · have hlt : ∀ k ∈ (wdO bi g1 g2 br bs R rm wi hi rd sm us os).map Prod.fst, k < w.heap.size := fun k hk => by
      obtain ⟨p, hp, rfl⟩ := List.mem_map.1 hk
      exact heap_lt (h.sf.far p hp).1
    have hn := h.ne
    simp only [wdO, List.map_cons, List.nodup_cons, List.mem_cons, not_or] at hn ⊢
    have l1 := hlt bi (by simp)
    have l2 := hlt g1 (by simp)
    have l3 := hlt g2 (by simp)
    have l4 := hlt br (by simp)
    have l5 := hlt bs (by simp)
    have l6 : w.heap.size ∉ os.map Prod.fst := fun hk => Nat.lt_irrefl _ (hlt _ (by simp only [wdO, List.map_cons, List.mem_cons]; exact .inr (.inr (.inr (.inr (.inr hk))))))
    obtain ⟨⟨n1, n2, n3, n4, n5⟩, ⟨m1, m2, m3, m4⟩, ⟨q1, q2, q3⟩, ⟨r1, r2⟩, s1, t1⟩ := hn
    exact ⟨⟨n1, n2, n3, n4, by omega, n5⟩, ⟨m1, m2, m3, by omega, m4⟩, ⟨q1, q2, by omega, q3⟩, ⟨r1, by omega, r2⟩, ⟨by omega, s1⟩, l6, t1⟩
theorem Wd.sub (h : Wd W w b bi g1 g2 br bs F X R rm wi hi rd sm us os v l) : Wd W w b bi g1 g2 br bs F X R rm wi hi rd sm us [] v l := by
  refine ⟨h.sf.sub (fun p hp => ?_), h.hl, h.sz, ?_⟩
  · simp only [wdO, List.mem_cons, List.not_mem_nil, or_false] at hp ⊢
    rcases hp with hp | hp | hp | hp | hp <;> simp [hp]
  · have hn := h.ne
    simp only [wdO, List.map_cons, List.map_nil, List.nodup_cons, List.mem_cons, not_or, List.not_mem_nil, not_false_eq_true, and_true, List.nodup_nil] at hn ⊢
    exact ⟨⟨hn.1.1, hn.1.2.1, hn.1.2.2.1, hn.1.2.2.2.1⟩, ⟨hn.2.1.1, hn.2.1.2.1, hn.2.1.2.2.1⟩, ⟨hn.2.2.1.1, hn.2.2.1.2.1⟩, hn.2.2.2.1.1⟩
/-- which blocks turn: only those of the receive buffer -/
theorem Wd.turnB (h : Wd W w b bi g1 g2 br bs F X R rm wi hi rd sm us os v l) (ht : rea.Tr bi g1 g2 w w') (hR : rea.RbAt w' bi g1 g2 R') : Wd W w' b bi g1 g2 br bs F X R' rm wi hi rd sm us os v l := by
  have hn := h.ne
  simp only [wdO, List.map_cons, List.nodup_cons, List.mem_cons, not_or] at hn
  obtain ⟨⟨n1, n2, n3, n4, n5⟩, ⟨m1, m2, m3, m4⟩, ⟨q1, q2, q3⟩, ⟨r1, r2⟩, s1, t1⟩ := hn
  have keep : ∀ p ∈ os, p.1 ≠ bi ∧ p.1 ≠ g1 ∧ p.1 ≠ g2 := fun p hp => ⟨fun e => n5 (e ▸ List.mem_map_of_mem hp), fun e => m4 (e ▸ List.mem_map_of_mem hp), fun e => q3 (e ▸ List.mem_map_of_mem hp)⟩
  have hc : Chg (fun k => k = bi ∨ k = g1 ∨ k = g2) w w' := ⟨ht.os, ht.tape, ht.output, ht.size, fun k hk hn => ht.block k hk (fun e => hn (.inl e)) (fun e => hn (.inr (.inl e))) (fun e => hn (.inr (.inr e)))⟩
  refine ⟨h.sf.turns hc (fun k hk => ?_) (fun p hp => ?_), hR.hl, hR.sm, ?_⟩
  · rcases hk with rfl | rfl | rfl
    · exact ⟨_, List.mem_cons_self ..⟩
    · exact ⟨_, List.mem_cons_of_mem _ (List.mem_cons_self ..)⟩
    · exact ⟨_, List.mem_cons_of_mem _ (List.mem_cons_of_mem _ (List.mem_cons_self ..))⟩
  · simp only [wdO, List.mem_cons] at hp
    rcases hp with rfl | rfl | rfl | rfl | rfl | hp
    · exact ⟨hR.ob, _, List.mem_cons_self ..⟩
    · exact ⟨hR.o1, _, List.mem_cons_of_mem _ (List.mem_cons_self ..)⟩
    · exact ⟨hR.o2, _, List.mem_cons_of_mem _ (List.mem_cons_of_mem _ (List.mem_cons_self ..))⟩
    · exact ⟨(ht.block br (heap_lt h.rv) (fun e => n3 e.symm) (fun e => m2 e.symm) (fun e => q1 e.symm)).trans h.rv, _, by simp only [wdO, List.mem_cons]; exact .inr (.inr (.inr (.inl rfl)))⟩
    · exact ⟨(ht.block bs (heap_lt h.sn) (fun e => n4 e.symm) (fun e => m3 e.symm) (fun e => q2 e.symm)).trans h.sn, _, by simp only [wdO, List.mem_cons]; exact .inr (.inr (.inr (.inr (.inl rfl))))⟩
    · have hk := keep p hp
      exact ⟨(ht.block p.1 (heap_lt (h.mem hp)) hk.1 hk.2.1 hk.2.2).trans (h.mem hp), p.2, by simp only [wdO, List.mem_cons]; exact .inr (.inr (.inr (.inr (.inr hp))))⟩
  · exact h.ne
theorem Wd.turnR (h : Wd W w b bi g1 g2 br bs F X R rm wi hi rd sm us os v l) (hB : Blk br (flo.rcC rm' wi' hi' rd') 72 w w') : Wd W w' b bi g1 g2 br bs F X R rm' wi' hi' rd' sm us os v l := by
  have hn := h.ne
  simp only [wdO, List.map_cons, List.nodup_cons, List.mem_cons, not_or] at hn
  obtain ⟨⟨n1, n2, n3, n4, n5⟩, ⟨m1, m2, m3, m4⟩, ⟨q1, q2, q3⟩, ⟨r1, r2⟩, s1, t1⟩ := hn
  have keep : ∀ p ∈ os, p.1 ≠ br := fun p hp e => r2 (e ▸ List.mem_map_of_mem hp)
  have kb : ∀ k, k < w.heap.size → k ≠ br → w'.heap[k]? = w.heap[k]? := fun k hk hne => hB.2.block k hk (fun e => hne (by cases e; rfl))
  have hc : Chg (fun k => k = br) w w' := Chg.grown hB.2 rfl
  refine ⟨h.sf.turns hc (fun k hk => ?_) (fun p hp => ?_), h.hl, h.sz, h.ne⟩
  · subst hk
    exact ⟨_, by simp only [wdO, List.mem_cons]; exact .inr (.inr (.inr (.inl rfl)))⟩
  · simp only [wdO, List.mem_cons] at hp
    rcases hp with rfl | rfl | rfl | rfl | rfl | hp
    · exact ⟨(kb _ (heap_lt h.rb.ob) n3).trans h.rb.ob, _, List.mem_cons_self ..⟩
    · exact ⟨(kb _ (heap_lt h.rb.o1) m2).trans h.rb.o1, _, List.mem_cons_of_mem _ (List.mem_cons_self ..)⟩
    · exact ⟨(kb _ (heap_lt h.rb.o2) q1).trans h.rb.o2, _, List.mem_cons_of_mem _ (List.mem_cons_of_mem _ (List.mem_cons_self ..))⟩
    · exact ⟨hB.1, _, by simp only [wdO, List.mem_cons]; exact .inr (.inr (.inr (.inl rfl)))⟩
    · exact ⟨(kb _ (heap_lt h.sn) (fun e => r1 e.symm)).trans h.sn, _, by simp only [wdO, List.mem_cons]; exact .inr (.inr (.inr (.inr (.inl rfl))))⟩
    · exact ⟨(kb _ (heap_lt (h.mem hp)) (keep p hp)).trans (h.mem hp), p.2, by simp only [wdO, List.mem_cons]; exact .inr (.inr (.inr (.inr (.inr hp))))⟩
theorem Wd.turnS (h : Wd W w b bi g1 g2 br bs F X R rm wi hi rd sm us os v l) (hB : Blk bs (flo.snC sm' us' 0) 74 w w') : Wd W w' b bi g1 g2 br bs F X R rm wi hi rd sm' us' os v l := by
  have hn := h.ne
  simp only [wdO, List.map_cons, List.nodup_cons, List.mem_cons, not_or] at hn
  obtain ⟨⟨n1, n2, n3, n4, n5⟩, ⟨m1, m2, m3, m4⟩, ⟨q1, q2, q3⟩, ⟨r1, r2⟩, s1, t1⟩ := hn
  have keep : ∀ p ∈ os, p.1 ≠ bs := fun p hp e => s1 (e ▸ List.mem_map_of_mem hp)
  have kb : ∀ k, k < w.heap.size → k ≠ bs → w'.heap[k]? = w.heap[k]? := fun k hk hne => hB.2.block k hk (fun e => hne (by cases e; rfl))
  have hc : Chg (fun k => k = bs) w w' := Chg.grown hB.2 rfl
  refine ⟨h.sf.turns hc (fun k hk => ?_) (fun p hp => ?_), h.hl, h.sz, h.ne⟩
  · subst hk
    exact ⟨_, by simp only [wdO, List.mem_cons]; exact .inr (.inr (.inr (.inr (.inl rfl))))⟩
  · simp only [wdO, List.mem_cons] at hp
    rcases hp with rfl | rfl | rfl | rfl | rfl | hp
    · exact ⟨(kb _ (heap_lt h.rb.ob) n4).trans h.rb.ob, _, List.mem_cons_self ..⟩
    · exact ⟨(kb _ (heap_lt h.rb.o1) m3).trans h.rb.o1, _, List.mem_cons_of_mem _ (List.mem_cons_self ..)⟩
    · exact ⟨(kb _ (heap_lt h.rb.o2) q2).trans h.rb.o2, _, List.mem_cons_of_mem _ (List.mem_cons_of_mem _ (List.mem_cons_self ..))⟩
    · exact ⟨(kb _ (heap_lt h.rv) r1).trans h.rv, _, by simp only [wdO, List.mem_cons]; exact .inr (.inr (.inr (.inl rfl)))⟩
    · exact ⟨hB.1, _, by simp only [wdO, List.mem_cons]; exact .inr (.inr (.inr (.inr (.inl rfl))))⟩
    · exact ⟨(kb _ (heap_lt (h.mem hp)) (keep p hp)).trans (h.mem hp), p.2, by simp only [wdO, List.mem_cons]; exact .inr (.inr (.inr (.inr (.inr hp))))⟩
end
end Go.Proofs.YtpfkeohaaeiaaaaDoor
