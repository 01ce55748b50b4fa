/- Texts DeA EnA R S Structs EnMain of this claim, one behind the other. -/
import Derived.Test.YtpfkeohaaeiaaaaMe8
import Derived.Test.YtpfkeohaaeiaaaaMe4
import Derived.Test.YtpfkeohaaeiaaaaMe7
import Derived.Deep.WholeRow
import Derived.Test.YtpfkeohaaeiaaaaMe1
import Derived.Deep.Slices
import Derived.Deep.Fields
import Derived.ChangeSame
import Derived.Deep.DeepCutAuto
import Derived.Deep.CutBlock
namespace Go.Proofs.Ytpfkeohaaeiaaaa
open Go.RowKit
set_option maxRecDepth 100000
/-! plain laws for SendBufDelivers: frames are acknowledged or lost one by one -/
/-- N bytes in all, `a` of them written into a buffer of lim; u acknowledged, s sent (those from u to s lost) -/
structure DeX (lim N a u s : Nat) (X : Wh) : Prop where
  lim : X.lim = lim
  S : X.S = (streamRow N N).take a
  aN : a ≤ N
  us : u ≤ s
  sa : s ≤ a
  len : X.T.length = a
  st : ∀ j, gd X.T j = if j < u then 3 else if j < s then 2 else 0
  ed : X.ed = 0 ∨ X.ed = 2
  fin : X.fin = true → a = N
section
variable {lim N a u s : Nat} {X : Wh}
theorem DeX.Sl (h : DeX lim N a u s X) : X.S.length = a := by rw [h.S]; have := h.aN; simp [streamRow_length]; omega
theorem DeX.xu (h : DeX lim N a u s X) : X.u = u := by
  refine lead_is (by rw [h.len]; have := h.us; have := h.sa; omega) (fun k hk => by rw [h.st, if_pos hk]) (fun _ => by rw [h.st, if_neg (Nat.lt_irrefl _)]; split <;> decide)
theorem DeX.sent (h : DeX lim N a u s X) : X.sent = s := by
  have := h.us
  refine first_is (by rw [h.len]; exact h.sa) (fun k hk => ?_) (fun _ => ?_)
  · rw [h.st]
    by_cases e : k < u
    · rw [if_pos e]; decide
    · rw [if_neg e, if_pos hk]; decide
  · rw [h.st, if_neg (by omega), if_neg (Nat.lt_irrefl _)]
/-- the bytes that Write takes -/
def deN (lim N a u : Nat) : Nat := min (N - a) (lim - (a - u))
theorem DeX.write (h : DeX lim N a u s X) (hc : a - u ≤ lim) (hf : X.fin = false ∨ a = N) {rest : ByteArray} (hr : bytesOf rest = (streamRow N N).drop a) :
    X.writeN rest = deN lim N a u ∧ DeX lim N (a + deN lim N a u) u s (X.write rest) := by
  have hu := h.xu; have hl := h.Sl; have h1 := h.us; have h2 := h.sa; have h3 := h.aN
  have hrs : rest.size = N - a := by rw [← bytesOf_length, hr]; simp [streamRow_length]
  have hn : X.writeN rest = deN lim N a u := by
    unfold Wh.writeN Wh.space deN
    rw [hrs, hu, hl, h.lim]
    rcases hf with hf | hf
    · rw [hf, if_neg (by decide)]; omega
    · split <;> omega
  refine ⟨hn, ⟨h.lim, ?_, by unfold deN; omega, h1, by omega, ?_, fun j => ?_, h.ed, fun e => ?_⟩⟩
  · show X.S ++ (bytesOf rest).take (X.writeN rest) = _
    rw [hn, hr, h.S, ← List.take_add]
  · show (X.T ++ _).length = _
    rw [List.length_append, h.len, hn]; simp
  · show gd (X.T ++ _) j = _
    rw [gd_append]
    split
    · exact h.st j
    · rename_i hj
      rw [h.len] at hj
      rw [if_neg (by omega), if_neg (by omega)]
      by_cases hk : j - X.T.length < X.writeN rest
      · exact gd_replicate _ _ _ hk
      · exact gd_ge (by simp; omega)
  · have : a = N := h.fin e
    unfold deN; omega
theorem DeX.finish (h : DeX lim N N u s X) : DeX lim N N u s { X with fin := true } := ⟨h.lim, h.S, h.aN, h.us, h.sa, h.len, h.st, h.ed, fun _ => rfl⟩
/-- where the next frame ends -/
def deT (a u s size : Nat) : Nat := if u < s then u + min (s - u) size else u + min (a - u) size
theorem deT_le (us : u ≤ s) (sa : s ≤ a) (size : Nat) : u ≤ deT a u s size ∧ deT a u s size ≤ a ∧ (deT a u s size ≤ s ∨ u = s) := by unfold deT; split <;> omega
theorem DeX.next (h : DeX lim N a u s X) {size : Nat} (h1 : 1 ≤ size) (h2 : size ≤ 100) (hfin : u = a → X.fin = true) : X.nextP size 100 = some (u, deT a u s size) := by
  have hsent := h.sent; have hl := h.Sl; have hus := h.us; have hsa := h.sa; have hlen := h.len
  unfold Wh.nextP
  rw [if_neg (by omega)]
  by_cases e : u < s
  · have e1 : first 2 X.T = u := first_is (by omega) (fun k hk => by rw [h.st, if_pos hk]; decide) (fun _ => by rw [h.st, if_neg (Nat.lt_irrefl _), if_pos e])
    have e0 : (size : Int).toNat = size := by omega
    have e2 : runLen 2 (X.T.drop u) size = min (s - u) size := runLen_is (by omega) (by simp only [List.length_drop]; omega) (fun k hk => by rw [gd_drop, h.st, if_neg (by omega), if_pos (by omega)]) (fun h1 h2 => by rw [gd_drop, h.st, if_neg (by omega), if_neg (by omega)]; decide)
    rw [if_pos ⟨by omega, by omega⟩, e1, e0, e2]
    unfold deT; rw [if_pos e]
  · have hus2 : u = s := by omega
    have e1 : first 2 X.T = X.T.length := first_none (fun k hk => by rw [h.st]; split; decide; split; omega; decide)
    rw [if_neg (by omega), hsent, hl]
    by_cases e3 : s < a
    · rw [if_pos ⟨e3, by omega, by decide⟩]
      unfold deT; rw [if_neg e]
      congr 2 <;> omega
    · have hop : X.opn = true := by
        unfold Wh.opn
        rw [hfin (by omega)]
        rcases h.ed with e | e <;> rw [e] <;> rfl
      rw [if_neg (by omega), if_pos ⟨by omega, hop⟩]
      unfold deT; rw [if_neg e]
      congr 2 <;> omega
theorem gd_streamRow {n j : Nat} (h : j < n) : gd (streamRow n n) j = streamAt j := by
  simp [gd, streamRow, h]
/-- the frame that Next takes here -/
theorem DeX.frame (h : DeX lim N a u s X) {size : Nat} (h1 : 1 ≤ size) (h2 : size ≤ 100) (hfin : u = a → X.fin = true) (hx : X.Ok) :
    ∃ str fin, X.nextR (some (u, deT a u s size)) = mkFr 8 u str fin ∧ str.size = deT a u s size - u ∧ (∀ k, k < str.size → gd (bytesOf str) k = streamAt (u + k)) ∧ fin = X.finT (deT a u s size) ∧ (deT a u s size = u → fin = true) ∧ FrOk (X.nextX (some (u, deT a u s size))) (mkFr 8 u str fin) := by
  have hp := h.next h1 h2 hfin
  have hA : bytesOf (strOfNums ((streamRow N N).take a)) = X.S := by rw [h.S]; exact bytes_str _ (fun x hx => streamRow_byte N N x (List.mem_of_mem_take hx))
  obtain ⟨str, fin, hR, hN, hO⟩ := next_frame hx hA hp (by omega)
  have hsz : str.size = deT a u s size - u := hN.size
  have hle := deT_le h.us h.sa size
  refine ⟨str, fin, hR, hsz, fun k hk => ?_, ?_, fun e => hN.empty (by simp only []; omega), hO⟩
  · have hb := hO.bytes
    have e1 : (mkFr 8 (u : Int) str fin).off.toNat = u := by show (u : Int).toNat = u; omega
    have e2 : (X.nextX (some (u, deT a u s size))).S = X.S := rfl
    rw [e1, e2, h.S] at hb
    have hb2 : bytesOf str = (((streamRow N N).take a).drop u).take str.size := hb
    rw [hb2, gd_take _ _ _ hk, gd_drop, gd_take _ _ _ (by omega)]
    exact gd_streamRow (by have := h.aN; omega)
  · have e : (X.nextR (some (u, deT a u s size))).fin = X.finT (deT a u s size) := rfl
    rw [hR] at e; exact e
theorem DeX.gd3 (h : DeX lim N a u s X) (size : Nat) (j : Nat) : gd (X.nextX (some (u, deT a u s size))).T j = if j < u then 3 else if j < deT a u s size then 1 else if j < s then 2 else 0 := by
  have hle := deT_le h.us h.sa size
  show gd (setTo X.T 1 u (deT a u s size - u)) j = _
  rw [gd_setTo _ _ _ _ _ (by rw [h.len]; omega), h.st]
  by_cases e1 : j < u
  · rw [if_neg (by omega), if_pos e1, if_pos e1]
  · by_cases e2 : j < deT a u s size
    · rw [if_pos (by omega), if_neg e1, if_pos e2]
    · rw [if_neg (by omega), if_neg e1, if_neg e1, if_neg e2]
theorem DeX.lost (h : DeX lim N a u s X) {size : Nat} {str : ByteArray} {fin : Bool} (hz : str.size = deT a u s size - u) (hf : fin = X.finT (deT a u s size)) (hO : FrOk (X.nextX (some (u, deT a u s size))) (mkFr 8 u str fin)) :
    DeX lim N a u (max s (deT a u s size)) ((X.nextX (some (u, deT a u s size))).lost (mkFr 8 u str fin)) := by
  have hle := deT_le h.us h.sa size
  have hl := h.len; have hsa := h.sa; have hus := h.us
  have e1 : (mkFr 8 (u : Int) str fin).off.toNat = u := by show (u : Int).toNat = u; omega
  have e2 : (mkFr 8 (u : Int) str fin).s.size = deT a u s size - u := hz
  have hl3 : (X.nextX (some (u, deT a u s size))).T.length = a := by show (setTo _ _ _ _).length = a; rw [setTo_length, hl]
  unfold Wh.lost
  rw [hO.fits, if_pos rfl]
  refine ⟨h.lim, h.S, h.aN, by omega, by omega, by simp only [Wh.mark, turnTo_length]; exact hl3, fun j => ?_, ?_, h.fin⟩
  · simp only [Wh.mark]
    rw [e1, e2, gd_turnTo _ _ _ _ _ (by rw [hl3]; omega), h.gd3]
    by_cases c1 : j < u
    · rw [if_neg (by omega), if_pos c1, if_pos c1]
    · by_cases c2 : j < deT a u s size
      · rw [if_pos (by omega), if_neg c1, if_pos c2, if_neg c1, if_pos (by omega)]; rfl
      · rw [if_neg (by omega), if_neg c1, if_neg c2, if_neg c1]
        by_cases c3 : j < s
        · rw [if_pos c3, if_pos (by omega)]
        · rw [if_neg c3, if_neg (by omega)]
  · have e : (Wh.mark false (X.nextX (some (u, deT a u s size))) (mkFr 8 u str fin)).ed = if fin = true then turn false (if X.finT (deT a u s size) = true then 1 else X.ed) else (if X.finT (deT a u s size) = true then 1 else X.ed) := rfl
    rw [e, ← hf]
    cases fin
    · exact h.ed
    · exact .inr rfl
theorem DeX.gdA (h : DeX lim N a u s X) {size : Nat} {str : ByteArray} {fin : Bool} (hz : str.size = deT a u s size - u) (j : Nat) :
    gd (Wh.mark true (X.nextX (some (u, deT a u s size))) (mkFr 8 u str fin)).T j = if j < deT a u s size then 3 else if j < s then 2 else 0 := by
  have hle := deT_le h.us h.sa size
  have hl := h.len; have hsa := h.sa; have hus := h.us
  have e1 : (mkFr 8 (u : Int) str fin).off.toNat = u := by show (u : Int).toNat = u; omega
  have e2 : (mkFr 8 (u : Int) str fin).s.size = deT a u s size - u := hz
  have hl3 : (X.nextX (some (u, deT a u s size))).T.length = a := by show (setTo _ _ _ _).length = a; rw [setTo_length, hl]
  simp only [Wh.mark]
  rw [e1, e2, gd_turnTo _ _ _ _ _ (by rw [hl3]; omega), h.gd3]
  by_cases c1 : j < u
  · rw [if_neg (by omega), if_pos c1, if_pos (by omega)]
  · by_cases c2 : j < deT a u s size
    · rw [if_pos (by omega), if_neg c1, if_pos c2, if_pos c2]; rfl
    · rw [if_neg (by omega), if_neg c1, if_neg c2, if_neg c2]
theorem DeX.acked (h : DeX lim N a u s X) {size : Nat} {str : ByteArray} {fin : Bool} (hz : str.size = deT a u s size - u) (hf : fin = X.finT (deT a u s size)) (hO : FrOk (X.nextX (some (u, deT a u s size))) (mkFr 8 u str fin)) (hn : fin = false) :
    DeX lim N a (deT a u s size) (max s (deT a u s size)) ((X.nextX (some (u, deT a u s size))).acked (mkFr 8 u str fin)) := by
  have hle := deT_le h.us h.sa size
  have hl := h.len; have hsa := h.sa; have hus := h.us
  have hl3 : (X.nextX (some (u, deT a u s size))).T.length = a := by show (setTo _ _ _ _).length = a; rw [setTo_length, hl]
  unfold Wh.acked
  rw [hO.fits, if_pos rfl]
  refine ⟨h.lim, h.S, h.aN, by omega, by omega, by simp only [Wh.mark, turnTo_length]; exact hl3, fun j => ?_, ?_, h.fin⟩
  · rw [h.gdA hz]
    by_cases c2 : j < deT a u s size
    · rw [if_pos c2, if_pos c2]
    · rw [if_neg c2, if_neg c2]
      by_cases c3 : j < s
      · rw [if_pos c3, if_pos (by omega)]
      · rw [if_neg c3, if_neg (by omega)]
  · subst hn
    show (if X.finT (deT a u s size) = true then (1 : Int) else X.ed) = 0 ∨ (if X.finT (deT a u s size) = true then (1 : Int) else X.ed) = 2
    rw [← hf]
    exact h.ed
/-- everything is acknowledged, the end too -/
structure DoneX (N : Nat) (X : Wh) : Prop where
  fin : X.fin = true
  ed : X.ed = 3
  len : X.S.length = N
  tl : X.T.length = N
  st : ∀ j, j < N → gd X.T j = 3
theorem DeX.done (h : DeX lim N a u s X) {size : Nat} {str : ByteArray} {fin : Bool} (hz : str.size = deT a u s size - u) (hf : fin = X.finT (deT a u s size)) (hO : FrOk (X.nextX (some (u, deT a u s size))) (mkFr 8 u str fin)) (hn : fin = true) :
    deT a u s size = N ∧ a = N ∧ DoneX N ((X.nextX (some (u, deT a u s size))).acked (mkFr 8 u str fin)) := by
  subst hn
  have hle := deT_le h.us h.sa size
  have hl := h.len
  have hft := hf.symm
  unfold Wh.finT Wh.opn at hft
  simp only [Bool.and_eq_true, decide_eq_true_eq, h.Sl] at hft
  obtain ⟨ht, hfn, _⟩ := hft
  have haN := h.fin hfn
  have hl3 : (X.nextX (some (u, deT a u s size))).T.length = a := by show (setTo _ _ _ _).length = a; rw [setTo_length, hl]
  refine ⟨by omega, haN, ?_⟩
  unfold Wh.acked
  rw [hO.fits, if_pos rfl]
  refine ⟨hfn, rfl, by show X.S.length = N; rw [h.Sl, haN], by simp only [Wh.mark, turnTo_length]; rw [hl3, haN], fun j hj => ?_⟩
  rw [h.gdA hz, if_pos (by omega)]
theorem DoneX.xu (h : DoneX N X) : X.u = N := lead_is (by rw [h.tl]; exact Nat.le_refl _) (fun k hk => h.st k hk) (fun hk => by rw [h.tl] at hk; omega)
theorem DoneX.done (h : DoneX N X) : X.done = true := by unfold Wh.done; rw [h.fin, h.xu, h.ed, h.len]; simp
theorem DoneX.next (h : DoneX N X) : X.nextP 10 10 = none := by
  have e1 : first 2 X.T = X.T.length := first_none (fun k hk => by rw [h.st k (by rw [← h.tl]; exact hk)]; decide)
  have e2 : X.sent = N := by
    have : first 0 X.T = X.T.length := first_none (fun k hk => by rw [h.st k (by rw [← h.tl]; exact hk)]; decide)
    show first 0 X.T = N; rw [this, h.tl]
  have e3 : X.opn = false := by unfold Wh.opn; rw [h.ed, h.fin]; rfl
  unfold Wh.nextP
  rw [if_neg (by decide), if_neg (by rw [e1]; omega), if_neg (by rw [e2, h.len]; omega), if_neg (by rw [e3]; simp)]
theorem DoneX.space (h : DoneX N X) : X.space = 0 := by unfold Wh.space; rw [h.fin]; rfl
theorem DeX.notdone (h : DeX lim N a u s X) : X.done = false := by
  unfold Wh.done
  rcases h.ed with e | e <;> rw [e] <;> simp
end
end Go.Proofs.Ytpfkeohaaeiaaaa
/- SendBufEncodes: plain laws. -/
namespace Go.Proofs.Ytpfkeohaaeiaaaa
open Go.RowKit
set_option maxRecDepth 100000
section
variable {lim N a u s : Nat} {X : Wh}
theorem DeX.nextC (h : DeX lim N a u s X) {size c : Nat} (h1 : 1 ≤ size) (h2 : size ≤ c) (hfin : u = a → X.fin = true) : X.nextP size c = some (u, deT a u s size) := by
  have hsent := h.sent; have hl := h.Sl; have hus := h.us; have hsa := h.sa; have hlen := h.len
  unfold Wh.nextP
  rw [if_neg (by omega)]
  by_cases e : u < s
  · have e1 : first 2 X.T = u := first_is (by omega) (fun k hk => by rw [h.st, if_pos hk]; decide) (fun _ => by rw [h.st, if_neg (Nat.lt_irrefl _), if_pos e])
    have e0 : (size : Int).toNat = size := by omega
    have e2 : runLen 2 (X.T.drop u) size = min (s - u) size := runLen_is (by omega) (by simp only [List.length_drop]; omega) (fun k hk => by rw [gd_drop, h.st, if_neg (by omega), if_pos (by omega)]) (fun h1 h2 => by rw [gd_drop, h.st, if_neg (by omega), if_neg (by omega)]; decide)
    rw [if_pos ⟨by omega, by omega⟩, e1, e0, e2]
    unfold deT; rw [if_pos e]
  · have hus2 : u = s := by omega
    have e1 : first 2 X.T = X.T.length := first_none (fun k hk => by rw [h.st]; split; decide; split; omega; decide)
    rw [if_neg (by omega), hsent, hl]
    by_cases e3 : s < a
    · rw [if_pos ⟨e3, by omega, by omega⟩]
      unfold deT; rw [if_neg e]
      congr 2 <;> omega
    · have hop : X.opn = true := by
        unfold Wh.opn
        rw [hfin (by omega)]
        rcases h.ed with e | e <;> rw [e] <;> rfl
      rw [if_neg (by omega), if_pos ⟨by omega, hop⟩]
      unfold deT; rw [if_neg e]
      congr 2 <;> omega
theorem DoneX.nextC (h : DoneX N X) (size c : Nat) : X.nextP size c = none := by
  have e1 : first 2 X.T = X.T.length := first_none (fun k hk => by rw [h.st k (by rw [← h.tl]; exact hk)]; decide)
  have e2 : X.sent = N := by
    have : first 0 X.T = X.T.length := first_none (fun k hk => by rw [h.st k (by rw [← h.tl]; exact hk)]; decide)
    show first 0 X.T = N; rw [this, h.tl]
  have e3 : X.opn = false := by unfold Wh.opn; rw [h.ed, h.fin]; rfl
  unfold Wh.nextP
  rw [if_neg (by omega), if_neg (by rw [e1]; omega), if_neg (by rw [e2, h.len]; omega), if_neg (by rw [e3]; simp)]
theorem DeX.start (lim N : Nat) : DeX lim N 0 0 0 (newX lim) := ⟨rfl, rfl, by omega, Nat.le_refl _, Nat.le_refl _, rfl, fun j => by simp [newX, gd], .inl rfl, fun e => by cases e⟩
end
theorem btrans2 {a b c : World} (h : Below a.heap.size a b) (k : Below b.heap.size b c) : Below a.heap.size a c := h.trans (k.mono h.size)
theorem sf_encode (u : Nat) (str : ByteArray) (fin : Bool) (hu : u ≤ 1000000) (hs : str.size ≤ 1024) : ∃ S : ByteArray, S.size ≤ 1049 ∧ (∀ wx, Calls Try.prog 11 #[(mkFr 8 u str fin).val] wx fun e w' => e = .returned (.tuple #[.string S, .int .i64 0]) ∧ Below wx.heap.size wx w') ∧
    (∀ wx, Calls Try.prog 12 #[.string S, .int .i64 0] wx fun e w' => ∃ V, Hid (V = .agg (mkFr 8 u str fin).cells) ∧ e = .returned (.tuple #[V, .int .i64 S.size, .int .i64 0]) ∧ Below wx.heap.size wx w') := by
  have hk : frm.SfOk 0 (u : Int) str := ⟨by decide, by decide, by omega, by omega, hs⟩
  exact ⟨frm.sfS 0 u str fin, frm.sfS_small hk, fun wx => frm.Encode_any 0 u str fin wx hk, fun wx => (frm.Decode_any 0 u str fin wx hk).mono fun _ _ h => ⟨_, Lib.hid rfl, h.1, h.2⟩⟩
end Go.Proofs.Ytpfkeohaaeiaaaa
namespace Go.Proofs.Ytpfkeohaaeiaaaa
open Go.RowKit
set_option maxRecDepth 100000
def S1 : Bf := ⟨4, 0, [97, 98, 99, 100], [0, 0, 0, 0], 0, false, 0⟩
def S2 : Bf := ⟨4, 0, [97, 98, 99, 100], [1, 1, 1, 0], 3, false, 0⟩
def S4 : Bf := ⟨4, 0, [97, 98, 99, 100], [1, 1, 1, 1], 4, false, 0⟩
def S5 : Bf := ⟨4, 0, [97, 98, 99, 100], [2, 2, 2, 1], 4, false, 0⟩
def S6 : Bf := ⟨4, 0, [97, 98, 99, 100], [1, 1, 2, 1], 4, false, 0⟩
def S7 : Bf := ⟨4, 0, [97, 98, 99, 100], [1, 1, 1, 1], 4, false, 0⟩
def S8 : Bf := ⟨4, 2, [99, 100], [1, 1], 4, false, 0⟩
def S9 : Bf := ⟨4, 2, [99, 100], [1, 1], 4, true, 0⟩
def S10 : Bf := ⟨4, 2, [99, 100], [1, 1], 4, true, 1⟩
def f3 : Fr := mkFr 8 0 ⟨#[97, 98, 99]⟩ false
def f5 : Fr := mkFr 8 3 ⟨#[100]⟩ false
def f7 : Fr := mkFr 8 0 ⟨#[97, 98]⟩ false
def f8 : Fr := mkFr 8 2 ⟨#[99]⟩ false
def f12 : Fr := mkFr 8 4 ⟨#[]⟩ true
theorem s1 : writeN (newB 4) ⟨#[97, 98, 99, 100, 101, 102]⟩ = 4 ∧ writeF (newB 4) ⟨#[97, 98, 99, 100, 101, 102]⟩ = S1 := by constructor <;> rfl
theorem s2 : nextP S1 3 10 = some (0, 3) ∧ nextB S1 (some (0, 3)) = S2 := by constructor <;> rfl
theorem s2r : nextR S1 (some (0, 3)) = f3 := by rfl
theorem s3 : nextP S2 3 0 = none := by rfl
theorem s4 : nextP S2 3 10 = some (3, 4) ∧ nextB S2 (some (3, 4)) = S4 ∧ nextR S2 (some (3, 4)) = f5 := by refine ⟨?_, ?_, ?_⟩ <;> rfl
theorem s5 : fitsF S4 f3 = true ∧ lostB S4 f3 = S5 := by constructor <;> rfl
theorem s6 : nextP S5 2 0 = some (0, 2) ∧ nextB S5 (some (0, 2)) = S6 ∧ nextR S5 (some (0, 2)) = f7 := by refine ⟨?_, ?_, ?_⟩ <;> rfl
theorem s7 : nextP S6 2 0 = some (2, 3) ∧ nextB S6 (some (2, 3)) = S7 ∧ nextR S6 (some (2, 3)) = f8 := by refine ⟨?_, ?_, ?_⟩ <;> rfl
theorem s8 : fitsF S7 f7 = true ∧ ackB S7 f7 = S8 := by constructor <;> rfl
theorem s9 : spaceF S8 = 2 := by rfl
theorem s10 : nextP S9 0 0 = some (2, 2) ∧ nextB S9 (some (2, 2)) = S10 ∧ nextR S9 (some (2, 2)) = f12 := by refine ⟨?_, ?_, ?_⟩ <;> rfl
theorem s11 : fitsF S10 (mkFr 8 5 ⟨#[]⟩ false) = false := by rfl

theorem good_of (B : Bf) (l1 : 1 ≤ B.lim) (l2 : B.lim ≤ 8192) (b0 : 0 ≤ B.base) (b1 : B.base ≤ 100000) (len : B.st.length = B.data.length) (cap : (B.data.length : Int) ≤ B.lim) (s0 : B.base ≤ B.sent) (s1 : B.sent ≤ B.base + B.data.length) : Good B := ⟨l1, l2, b0, by omega, len, cap, s0, s1⟩
theorem g0 : Good (newB 4) := by refine good_of _ ?_ ?_ ?_ ?_ ?_ ?_ ?_ ?_ <;> decide
theorem g1 : Good S1 := by refine good_of _ ?_ ?_ ?_ ?_ ?_ ?_ ?_ ?_ <;> decide
theorem g2 : Good S2 := by refine good_of _ ?_ ?_ ?_ ?_ ?_ ?_ ?_ ?_ <;> decide
theorem g4 : Good S4 := by refine good_of _ ?_ ?_ ?_ ?_ ?_ ?_ ?_ ?_ <;> decide
theorem g5 : Good S5 := by refine good_of _ ?_ ?_ ?_ ?_ ?_ ?_ ?_ ?_ <;> decide
theorem g6 : Good S6 := by refine good_of _ ?_ ?_ ?_ ?_ ?_ ?_ ?_ ?_ <;> decide
theorem g7 : Good S7 := by refine good_of _ ?_ ?_ ?_ ?_ ?_ ?_ ?_ ?_ <;> decide
theorem g8 : Good S8 := by refine good_of _ ?_ ?_ ?_ ?_ ?_ ?_ ?_ ?_ <;> decide
theorem g9 : Good S9 := by refine good_of _ ?_ ?_ ?_ ?_ ?_ ?_ ?_ ?_ <;> decide
theorem g10 : Good S10 := by refine good_of _ ?_ ?_ ?_ ?_ ?_ ?_ ?_ ?_ <;> decide
section
variable {W w : World} {b : Nat} {F : Nat → Prop} {fs : List (Nat × Fr)}
theorem c1 (h : St W w b F (newB 4) fs) : Calls Try.prog 7 #[.pointer (some ⟨b, 0, none⟩), .string ⟨#[97, 98, 99, 100, 101, 102]⟩] w fun e w' => e = .returned (.int .i64 4) ∧ ∃ F', St W w' b F' S1 fs :=
  (st_write h g0 _ (by decide)).mono fun _ _ hh => by rw [s1.1, s1.2] at hh; exact hh
theorem c2 (h : St W w b F S1 fs) : Calls Try.prog 10 #[.pointer (some ⟨b, 0, none⟩), .int .i64 3, .int .i64 10] w fun e w' => e = .returned (.tuple #[f3.val, .bool true]) ∧ ∃ F', St W w' b F' S2 fs :=
  (st_next h g1 3 10).mono fun _ _ hh => by rw [s2.1, s2.2, s2r] at hh; exact hh
theorem c3 (h : St W w b F S2 fs) : Calls Try.prog 10 #[.pointer (some ⟨b, 0, none⟩), .int .i64 3, .int .i64 0] w fun e w' => e = .returned (.tuple #[fr0.val, .bool false]) ∧ ∃ F', St W w' b F' S2 fs :=
  (st_next h g2 3 0).mono fun _ _ hh => by rw [s3] at hh; exact hh
theorem c4 (h : St W w b F S2 fs) : Calls Try.prog 10 #[.pointer (some ⟨b, 0, none⟩), .int .i64 3, .int .i64 10] w fun e w' => e = .returned (.tuple #[f5.val, .bool true]) ∧ ∃ F', St W w' b F' S4 fs :=
  (st_next h g2 3 10).mono fun _ _ hh => by rw [s4.1, s4.2.1, s4.2.2] at hh; exact hh
theorem c5 (h : St W w b F S4 fs) : Calls Try.prog 16 #[.pointer (some ⟨b, 0, none⟩), f3.val] w fun e w' => e = .returned (.int .i64 0) ∧ ∃ F', St W w' b F' S5 fs :=
  (st_lost h g4 f3).mono fun _ _ hh => by rw [s5.2, show ackE S4 f3 = 0 from by unfold ackE; rw [s5.1]; rfl] at hh; exact hh
theorem c6 (h : St W w b F S5 fs) : Calls Try.prog 10 #[.pointer (some ⟨b, 0, none⟩), .int .i64 2, .int .i64 0] w fun e w' => e = .returned (.tuple #[f7.val, .bool true]) ∧ ∃ F', St W w' b F' S6 fs :=
  (st_next h g5 2 0).mono fun _ _ hh => by rw [s6.1, s6.2.1, s6.2.2] at hh; exact hh
theorem c7 (h : St W w b F S6 fs) : Calls Try.prog 10 #[.pointer (some ⟨b, 0, none⟩), .int .i64 2, .int .i64 0] w fun e w' => e = .returned (.tuple #[f8.val, .bool true]) ∧ ∃ F', St W w' b F' S7 fs :=
  (st_next h g6 2 0).mono fun _ _ hh => by rw [s7.1, s7.2.1, s7.2.2] at hh; exact hh
theorem c8 (h : St W w b F S7 fs) : Calls Try.prog 13 #[.pointer (some ⟨b, 0, none⟩), f7.val] w fun e w' => e = .returned (.int .i64 0) ∧ ∃ F', St W w' b F' S8 fs :=
  (st_acked h g7 f7).mono fun _ _ hh => by rw [s8.2, show ackE S7 f7 = 0 from by unfold ackE; rw [s8.1]; rfl] at hh; exact hh
theorem c9 (h : St W w b F S8 fs) : Calls Try.prog 17 #[.pointer (some ⟨b, 0, none⟩)] w fun e w' => e = .returned (.int .i64 2) ∧ ∃ F', St W w' b F' S8 fs :=
  (st_space h g8).mono fun _ _ hh => by rw [s9] at hh; exact hh
theorem c10 (h : St W w b F S8 fs) : Calls Try.prog 9 #[.pointer (some ⟨b, 0, none⟩)] w fun e w' => e = .returned (.tuple #[]) ∧ ∃ F', St W w' b F' S9 fs :=
  st_finish h
theorem c11 (h : St W w b F S9 fs) : Calls Try.prog 10 #[.pointer (some ⟨b, 0, none⟩), .int .i64 0, .int .i64 0] w fun e w' => e = .returned (.tuple #[f12.val, .bool true]) ∧ ∃ F', St W w' b F' S10 fs :=
  (st_next h g9 0 0).mono fun _ _ hh => by rw [s10.1, s10.2.1, s10.2.2] at hh; exact hh
theorem c12 (h : St W w b F S10 fs) : Calls Try.prog 13 #[.pointer (some ⟨b, 0, none⟩), (mkFr 8 5 ⟨#[]⟩ false).val] w fun e w' => e = .returned (.int .i64 170) ∧ ∃ F', St W w' b F' S10 fs :=
  (st_acked h g10 (mkFr 8 5 ⟨#[]⟩ false)).mono fun _ _ hh => by rw [show ackB S10 (mkFr 8 5 ⟨#[]⟩ false) = S10 from by unfold ackB; rw [s11]; rfl, show ackE S10 (mkFr 8 5 ⟨#[]⟩ false) = 170 from by unfold ackE; rw [s11]; rfl] at hh; exact hh
end
end Go.Proofs.Ytpfkeohaaeiaaaa
namespace Go.Proofs.Ytpfkeohaaeiaaaa
open Go.RowKit
set_option maxRecDepth 100000
theorem wpList_load_row_g {P : Program} {ops : Array Oper} {rest : List Oper} {o : Oper} {a : Act} {w : World} {Q : Exit → Act → World → Prop} (hw : Region.wanted o (yielded ops a.tmps) = true) (ty : TypeId) (x : Operand) (ho : o.op = .load ty x)
    (g : Nat) (hx : a.eval x = .pointer (some ⟨g, 0, none⟩)) (t : TypeId) (cs : Array Value) (fr : Nat × Nat) (d : TypeDesc) (hg : w.heap[g]? = some (.cells cs t fr))
    (hu : P.underlying ty = some d) (hd : (match d with | .struct _ | .array _ _ => true | _ => false) = true) (hi : (P.info? ty).map (·.size) = some cs.size)
    (h : wpList P ops Q rest (a.put o.dst (.agg cs)) w) : wpList P ops Q (o :: rest) a w := by
  rw [wpList, if_pos hw]
  exact .inl (wp_load_row ty x ho g hx t cs fr d hg hu hd hi h)
theorem named {P : Program} {fid : FuncId} {args : Array Value} {w : World} {f : Fr} {o : Bool} {R : World → Prop} (h : Calls P fid args w fun e w' => e = .returned (.tuple #[f.val, .bool o]) ∧ R w') : Calls P fid args w fun e w' => ∃ V, Hid (V = .agg f.cells) ∧ e = .returned (.tuple #[V, .bool o]) ∧ R w' :=
  h.mono fun _ _ hh => ⟨_, Lib.hid rfl, hh.1, hh.2⟩
set_option maxRecDepth 100000 in
set_option maxHeartbeats 8000000 in
theorem sane_any (w : World) : Calls Try.prog 4 #[] w fun e w' => e = .returned (.bool true) ∧ Below w.heap.size w w' := by
  have NW := Lib.hid ((new_ok 4 w (by decide) (by decide)).mono (R' := fun e w' => e = .returned (.tuple #[.pointer (some ⟨w.heap.size, 0, none⟩), .int .i64 0]) ∧ Hid (St w w' w.heap.size (fun k => k = w.heap.size) (newB 4) [])) (fun e w' hh => ⟨hh.1, by rw [hh.2]; exact Lib.hid (st_new 4 w w (Below.refl _ w))⟩))
  have C1 := Lib.hid (fun (wx : World) (F : Nat → Prop) (fs : List (Nat × Fr)) (h : St w wx w.heap.size F _ fs) => c1 h)
  have C9 := Lib.hid (fun (wx : World) (F : Nat → Prop) (fs : List (Nat × Fr)) (h : St w wx w.heap.size F _ fs) => c9 h)
  have C10 := Lib.hid (fun (wx : World) (F : Nat → Prop) (fs : List (Nat × Fr)) (h : St w wx w.heap.size F _ fs) => c10 h)
  have C12 := Lib.hid (fun (wx : World) (F : Nat → Prop) (fs : List (Nat × Fr)) (h : St w wx w.heap.size F _ fs) => c12 h)
  have C2 := Lib.hid (fun (wx : World) (F : Nat → Prop) (fs : List (Nat × Fr)) (h : St w wx w.heap.size F _ fs) => named (c2 h))
  have C3 := Lib.hid (fun (wx : World) (F : Nat → Prop) (fs : List (Nat × Fr)) (h : St w wx w.heap.size F _ fs) => named (c3 h))
  have C4 := Lib.hid (fun (wx : World) (F : Nat → Prop) (fs : List (Nat × Fr)) (h : St w wx w.heap.size F _ fs) => named (c4 h))
  have C5 := Lib.hid (fun (wx : World) (F : Nat → Prop) (fs : List (Nat × Fr)) (h : St w wx w.heap.size F _ fs) => c5 h)
  have C6 := Lib.hid (fun (wx : World) (F : Nat → Prop) (fs : List (Nat × Fr)) (h : St w wx w.heap.size F _ fs) => named (c6 h))
  have C7 := Lib.hid (fun (wx : World) (F : Nat → Prop) (fs : List (Nat × Fr)) (h : St w wx w.heap.size F _ fs) => named (c7 h))
  have C8 := Lib.hid (fun (wx : World) (F : Nat → Prop) (fs : List (Nat × Fr)) (h : St w wx w.heap.size F _ fs) => c8 h)
  have C11 := Lib.hid (fun (wx : World) (F : Nat → Prop) (fs : List (Nat × Fr)) (h : St w wx w.heap.size F _ fs) => named (c11 h))
  have Of3 : Hid (f3.cells.all (·.oneCell') = true) := Lib.hid (one35 _ _ _ _)
  have Ofr0 : Hid (fr0.cells.all (·.oneCell') = true) := Lib.hid (one35 _ _ _ _)
  have Of5 : Hid (f5.cells.all (·.oneCell') = true) := Lib.hid (one35 _ _ _ _)
  have Of7 : Hid (f7.cells.all (·.oneCell') = true) := Lib.hid (one35 _ _ _ _)
  have Of8 : Hid (f8.cells.all (·.oneCell') = true) := Lib.hid (one35 _ _ _ _)
  have Of12 : Hid (f12.cells.all (·.oneCell') = true) := Lib.hid (one35 _ _ _ _)
  have Ef3 : Hid (f3.ty = 8 ∧ f3.off = 0 ∧ f3.s = ⟨#[97, 98, 99]⟩ ∧ f3.fin = false) := Lib.hid ⟨rfl, rfl, rfl, rfl⟩
  have Ef5 : Hid (f5.ty = 8 ∧ f5.off = 3 ∧ f5.s = ⟨#[100]⟩ ∧ f5.fin = false) := Lib.hid ⟨rfl, rfl, rfl, rfl⟩
  have Ef7 : Hid (f7.ty = 8 ∧ f7.off = 0 ∧ f7.s = ⟨#[97, 98]⟩ ∧ f7.fin = false) := Lib.hid ⟨rfl, rfl, rfl, rfl⟩
  have Ef8 : Hid (f8.ty = 8 ∧ f8.off = 2 ∧ f8.s = ⟨#[99]⟩ ∧ f8.fin = false) := Lib.hid ⟨rfl, rfl, rfl, rfl⟩
  have Ef12 : Hid (f12.ty = 8 ∧ f12.off = 4 ∧ f12.s = ⟨#[]⟩ ∧ f12.fin = true) := Lib.hid ⟨rfl, rfl, rfl, rfl⟩
  have AN := Lib.hid (fun (wx : World) => acked_nil f3 wx)
  generalize f3 = Vf3 at *
  generalize fr0 = Vfr0 at *
  generalize f5 = Vf5 at *
  generalize f7 = Vf7 at *
  generalize f8 = Vf8 at *
  generalize f12 = Vf12 at *
  generalize S1 = B1 at *
  generalize S2 = B2 at *
  generalize S4 = B4 at *
  generalize S5 = B5 at *
  generalize S6 = B6 at *
  generalize S7 = B7 at *
  generalize S8 = B8 at *
  generalize S9 = B9 at *
  generalize S10 = B10 at *
  generalize newB 4 = B0 at *
  have T1 : Hid (1 = 1) := Lib.hid rfl
  have T2 : Hid (1 = 1) := Lib.hid rfl
  have T3 : Hid (1 = 1) := Lib.hid rfl
  have T4 : Hid (1 = 1) := Lib.hid rfl
  have T5 : Hid (1 = 1) := Lib.hid rfl
  have T6 : Hid (1 = 1) := Lib.hid rfl
  have T7 : Hid (1 = 1) := Lib.hid rfl
  have T8 : Hid (1 = 1) := Lib.hid rfl
  have T9 : Hid (1 = 1) := Lib.hid rfl
  have T10 : Hid (1 = 1) := Lib.hid rfl
  have T11 : Hid (1 = 1) := Lib.hid rfl
  have T12 : Hid (1 = 1) := Lib.hid rfl
  have T13 : Hid (1 = 1) := Lib.hid rfl
  have T14 : Hid (1 = 1) := Lib.hid rfl
  have T15 : Hid (1 = 1) := Lib.hid rfl
  have T16 : Hid (1 = 1) := Lib.hid rfl
  have T17 : Hid (1 = 1) := Lib.hid rfl
  have T18 : Hid (1 = 1) := Lib.hid rfl
  have T19 : Hid (1 = 1) := Lib.hid rfl
  have T20 : Hid (1 = 1) := Lib.hid rfl
  have T21 : Hid (1 = 1) := Lib.hid rfl
  have T22 : Hid (1 = 1) := Lib.hid rfl
  have T23 : Hid (1 = 1) := Lib.hid rfl
  have T24 : Hid (1 = 1) := Lib.hid rfl
  have T25 : Hid (1 = 1) := Lib.hid rfl
  go_enter Try.func4, Try.ntmps4
  go_wp2_with (first | (go_at_call 6; have T0 := T1.out; clear T0 T1; refine NW.out.mono ?_; rintro e wn ⟨rfl, H⟩) | (go_at_call 7; have T0 := T2.out; clear T0 T2; (first | (refine (C1.out _ _ _ H.out).mono ?_)); rintro e wn ⟨rfl, FN, H2⟩; clear H; have H := Lib.hid H2; clear H2) | (go_at_call 10; have T0 := T3.out; clear T0 T3; refine (C2.out _ _ _ H.out).mono ?_; rintro e wn2 ⟨V, HV, rfl, FN, H2⟩; clear H; have H := Lib.hid H2; clear H2) | (go_at_call 10; have T0 := T4.out; clear T0 T4; refine (C3.out _ _ _ H.out).mono ?_; rintro e wn3 ⟨V, HV, rfl, FN, H2⟩; clear H; have H := Lib.hid H2; clear H2) | (go_at_call 10; have T0 := T5.out; clear T0 T5; refine (C4.out _ _ _ H.out).mono ?_; rintro e wn4 ⟨V, HV, rfl, FN, H2⟩; clear H; have H := Lib.hid H2; clear H2) | (go_at_call 10; have T0 := T6.out; clear T0 T6; refine (C6.out _ _ _ H.out).mono ?_; rintro e wn6 ⟨V, HV, rfl, FN, H2⟩; clear H; have H := Lib.hid H2; clear H2) | (go_at_call 10; have T0 := T7.out; clear T0 T7; refine (C7.out _ _ _ H.out).mono ?_; rintro e wn7 ⟨V, HV, rfl, FN, H2⟩; clear H; have H := Lib.hid H2; clear H2) | (go_at_call 10; have T0 := T8.out; clear T0 T8; refine (C11.out _ _ _ H.out).mono ?_; rintro e wn11 ⟨V, HV, rfl, FN, H2⟩; clear H; have H := Lib.hid H2; clear H2) | (go_at_call 16; have T0 := T9.out; clear T0 T9; (first | (refine (C5.out _ _ _ H.out).mono ?_)); rintro e wn ⟨rfl, FN, H2⟩; clear H; have H := Lib.hid H2; clear H2) | (go_at_call 13; have T0 := T10.out; clear T0 T10; (first | (refine (C8.out _ _ _ H.out).mono ?_)); rintro e wn ⟨rfl, FN, H2⟩; clear H; have H := Lib.hid H2; clear H2) | (go_at_call 17; have T0 := T11.out; clear T0 T11; (first | (refine (C9.out _ _ _ H.out).mono ?_)); rintro e wn ⟨rfl, FN, H2⟩; clear H; have H := Lib.hid H2; clear H2) | (go_at_call 9; have T0 := T12.out; clear T0 T12; (first | (refine (C10.out _ _ _ H.out).mono ?_)); rintro e wn ⟨rfl, FN, H2⟩; clear H; have H := Lib.hid H2; clear H2) | (have T0 := T13.out; clear T0 T13; refine wpList_store_row rfl 33 _ _ rfl _ Vf3.cells rfl HV.out 33 _ (heap_alloc_new _ _) (size33 _) rfl Of3.out ?_; rw [World.setRow_alloc_new]; have H2 := H.out.frame Vf3; clear H HV; have H := Lib.hid H2; clear H2; generalize wn2.alloc (.cells Vf3.cells 33) = wm at H ⊢) | (have T0 := T14.out; clear T0 T14; refine wpList_store_row rfl 33 _ _ rfl _ Vfr0.cells rfl HV.out 33 _ (heap_alloc_new _ _) (size33 _) rfl Ofr0.out ?_; rw [World.setRow_alloc_new]; have H2 := H.out.frame Vfr0; clear H HV; have H := Lib.hid H2; clear H2; generalize wn3.alloc (.cells Vfr0.cells 33) = wm at H ⊢) | (have T0 := T15.out; clear T0 T15; refine wpList_store_row rfl 33 _ _ rfl _ Vf5.cells rfl HV.out 33 _ (heap_alloc_new _ _) (size33 _) rfl Of5.out ?_; rw [World.setRow_alloc_new]; have H2 := H.out.frame Vf5; clear H HV; have H := Lib.hid H2; clear H2; generalize wn4.alloc (.cells Vf5.cells 33) = wm at H ⊢) | (have T0 := T16.out; clear T0 T16; refine wpList_store_row rfl 33 _ _ rfl _ Vf7.cells rfl HV.out 33 _ (heap_alloc_new _ _) (size33 _) rfl Of7.out ?_; rw [World.setRow_alloc_new]; have H2 := H.out.frame Vf7; clear H HV; have H := Lib.hid H2; clear H2; generalize wn6.alloc (.cells Vf7.cells 33) = wm at H ⊢) | (have T0 := T17.out; clear T0 T17; refine wpList_store_row rfl 33 _ _ rfl _ Vf8.cells rfl HV.out 33 _ (heap_alloc_new _ _) (size33 _) rfl Of8.out ?_; rw [World.setRow_alloc_new]; have H2 := H.out.frame Vf8; clear H HV; have H := Lib.hid H2; clear H2; generalize wn7.alloc (.cells Vf8.cells 33) = wm at H ⊢) | (have T0 := T18.out; clear T0 T18; refine wpList_store_row rfl 33 _ _ rfl _ Vf12.cells rfl HV.out 33 _ (heap_alloc_new _ _) (size33 _) rfl Of12.out ?_; rw [World.setRow_alloc_new]; have H2 := H.out.frame Vf12; clear H HV; have H := Lib.hid H2; clear H2; generalize wn11.alloc (.cells Vf12.cells 33) = wm at H ⊢) | (have T0 := T19.out; clear T0 T19; refine wpList_load_row rfl 33 _ rfl wn2.heap.size rfl 33 Vf3.cells (0, 0) _ (H.out.far (wn2.heap.size, Vf3) (by simp)).1 Try.underlying33 rfl (size33 Vf3) ?_) | (have T0 := T20.out; clear T0 T20; refine wpList_load_row rfl 33 _ rfl wn6.heap.size rfl 33 Vf7.cells (0, 0) _ (H.out.far (wn6.heap.size, Vf7) (by simp)).1 Try.underlying33 rfl (size33 Vf7) ?_) | (go_at_call 6; have T0 := T21.out; clear T0 T21; refine (new_no 0 _ (by decide)).mono ?_; rintro e wk ⟨rfl, rfl⟩; have Bf3 := Boxed.of (H.out.far (wn2.heap.size, Vf3) (by simp)).1; obtain ⟨yf30, yf32, yf33, yf34⟩ := Ef3.out; obtain ⟨kf30, kf32, kf33, kf34⟩ := Bf3; rw [yf30] at kf30; rw [yf32] at kf32; rw [yf33] at kf33; rw [yf34] at kf34; clear yf30 yf32 yf33 yf34; have Bf5 := Boxed.of (H.out.far (wn4.heap.size, Vf5) (by simp)).1; obtain ⟨yf50, yf52, yf53, yf54⟩ := Ef5.out; obtain ⟨kf50, kf52, kf53, kf54⟩ := Bf5; rw [yf50] at kf50; rw [yf52] at kf52; rw [yf53] at kf53; rw [yf54] at kf54; clear yf50 yf52 yf53 yf54; have Bf7 := Boxed.of (H.out.far (wn6.heap.size, Vf7) (by simp)).1; obtain ⟨yf70, yf72, yf73, yf74⟩ := Ef7.out; obtain ⟨kf70, kf72, kf73, kf74⟩ := Bf7; rw [yf70] at kf70; rw [yf72] at kf72; rw [yf73] at kf73; rw [yf74] at kf74; clear yf70 yf72 yf73 yf74; have Bf8 := Boxed.of (H.out.far (wn7.heap.size, Vf8) (by simp)).1; obtain ⟨yf80, yf82, yf83, yf84⟩ := Ef8.out; obtain ⟨kf80, kf82, kf83, kf84⟩ := Bf8; rw [yf80] at kf80; rw [yf82] at kf82; rw [yf83] at kf83; rw [yf84] at kf84; clear yf80 yf82 yf83 yf84; have Bf12 := Boxed.of (H.out.far (wn11.heap.size, Vf12) (by simp)).1; obtain ⟨yf120, yf122, yf123, yf124⟩ := Ef12.out; obtain ⟨kf120, kf122, kf123, kf124⟩ := Bf12; rw [yf120] at kf120; rw [yf122] at kf122; rw [yf123] at kf123; rw [yf124] at kf124; clear yf120 yf122 yf123 yf124) | (have T0 := T25.out; clear T0 T25; refine wpList_load_row_g rfl 33 _ rfl wn2.heap.size rfl 33 Vf3.cells (0, 0) _ (H.out.far (wn2.heap.size, Vf3) (by simp)).1 Try.underlying33 rfl (size33 Vf3) ?_) | (go_at_call 13; have T0 := T22.out; clear T0 T22; refine (AN.out _).mono ?_; rintro e wp ⟨rfl, hB⟩; have H2 := H.out.same hB; clear H; have H := Lib.hid H2; clear H2 hB) | (go_at_call 7; have T0 := T23.out; clear T0 T23; refine (write_nil _ _ (by decide)).mono ?_; rintro e wq ⟨rfl, hB⟩; have H2 := H.out.same hB; clear H; have H := Lib.hid H2; clear H2 hB) | (go_at_call 13; have T0 := T24.out; clear T0 T24; refine (C12.out _ _ _ H.out).mono ?_; rintro e wr ⟨rfl, FN, H2⟩; clear H; have H := Lib.hid H2; clear H2))
  go_ret
  exact ⟨rfl, H.out.below⟩
end Go.Proofs.Ytpfkeohaaeiaaaa
/- Arguments that are slices of structs of one-cell fields, opened to their cells. The first theorem is the guide's lemma on such slices, laid here as it is meant to be. -/
namespace Go.Proofs.Ytpfkeohaaeiaaaa
open Go.ChangeShapes Go.WideShapes Go.Deep Go.RowKit
section
variable {H : Type} {enc : TypeId × Value → H} {P : Program} {w : World} {base : Nat} {spare : Nat → Bool} {held : Bool}
theorem open_slice_fields {t e : TypeId} {fs : Array Field} {fuel : Nat} {cs : List Value} {x : DataW H × List MemPlace} (ht : P.underlying t = some (.slice e)) (he : P.underlying e = some (.struct fs))
    (hone : oneCellFields P fs = true) (hC : P.cellsOf e = fs.size) (h : DataW.trod enc P w base spare held fuel t cs = some x) :
    (cs = [.slice none 0 0] ∧ x = (.nil, [])) ∨
    ∃ (a : Addr) (len cap m : Nat) (D : Nat → DataW H) (Pl : Nat → List MemPlace), cs = [.slice (some a) len cap] ∧ base ≤ a.block ∧ len ≤ cap ∧ cap ≤ maxLen ∧ m = (if spare a.block then cap else len) ∧
      x = (.slice ((List.range len).map D) ((List.range (m - len)).map fun j => D (len + j)), MemPlace.row a (m * fs.size) ++ (List.range m).flatMap Pl) ∧
      ∀ i, i < m → ∃ (ys : List (DataW H × List MemPlace)) (n : Nat), D i = .agg (ys.map (·.1)) ∧ Pl i = ys.flatMap (·.2) ∧ ys.length = fs.size ∧
        ∀ (j : Nat) (f : Field), fs[j]? = some f → ∃ (v : Value) (y : DataW H × List MemPlace), w.cell? (a.add (i * fs.size + j)) = some v ∧ ys[j]? = some y ∧ DataW.trod enc P w base spare held n f.type [v] = some y := by
  rcases open_slice ht h with h0 | ⟨a, len, cap, m, n, D, Pl, hcs, hb, hl, hm, hmm, hx, hi⟩
  · exact .inl h0
  · refine .inr ⟨a, len, cap, m, D, Pl, hcs, hb, hl, hm, hmm, by rw [hC] at hx; exact hx, fun i him => ?_⟩
    obtain ⟨cs', hc, ht'⟩ := hi i him
    rw [hC] at hc
    obtain ⟨ys, n', hn', hy, hlen, hyl, hf⟩ := DataW.trod_struct he ht'
    obtain ⟨_, hcl, hat⟩ := World.cells?_some hc
    simp only [Prod.mk.injEq] at hy
    refine ⟨ys, n', hy.1, hy.2, hyl, fun j f hj => ?_⟩
    obtain ⟨ho, hk⟩ := hone_of hone j f hj
    have hjl : j < fs.size := (Array.getElem?_eq_some_iff.1 hj).1
    have hcell := hat j hjl
    have hv : cs'[j]? = some (cs'[j]'(by omega)) := List.getElem?_eq_getElem (by omega)
    have h1 := hf j f hj
    rw [ho, hk] at h1
    have hone' : (cs'.drop j).take 1 = [cs'[j]'(by omega)] := by
      rw [List.drop_eq_getElem_cons (by omega)]
      rfl
    rw [hone'] at h1
    have hys : ys[j]? = some (ys[j]'(by omega)) := List.getElem?_eq_getElem (by omega)
    refine ⟨_, _, ?_, hys, h1.trans hys⟩
    rw [← Go.Deep.add_add, hcell, hv]
end

/-- the integer in a cell -/
def numAt (w : World) (b o : Nat) : Int := match w.cell? ⟨b, o, none⟩ with
  | some (.int _ n) => n
  | _ => 0
set_option maxRecDepth 100000 in
/-- a slice of structs of n integer fields: every cell is an integer that fits -/
theorem int_structs_at {H : Type} {enc : TypeId × Value → H} {W : World} {base : Nat} {held : Bool} {t e it : TypeId} {v : Value} {d : DataW H} {p : List MemPlace} {fs : Array Field}
    (ht : Try.prog.underlying t = some (.slice e)) (he : Try.prog.underlying e = some (.struct fs)) (hone : oneCellFields Try.prog fs = true) (hC : Try.prog.cellsOf e = fs.size)
    (hs : 0 < fs.size) (hi : Try.prog.underlying it = some (.int .i64)) (hf : ∀ (j : Nat) (f : Field), fs[j]? = some f → f.type = it) (hv : Value.okWide Try.prog W .any base t v)
    (h : DataW.Trod enc Try.prog W 0 (fun _ => true) held t v d p) :
    ∃ a len cap, v = .slice a len cap ∧ len ≤ cap ∧ (len = 0 ∨ ∃ b off, a = some ⟨b, off, none⟩ ∧ cap ≤ maxLen ∧
      ∀ i, i < len → ∀ j, j < fs.size → W.cell? ⟨b, off + (i * fs.size + j), none⟩ = some (.int .i64 (numAt W b (off + (i * fs.size + j)))) ∧ (Lit.int .i64 (numAt W b (off + (i * fs.size + j)))).wf = true) := by
  obtain ⟨a0, len, cap, rfl⟩ := okWide_slice ht hv
  obtain ⟨fuel, hf'⟩ := h
  rcases open_slice_fields ht he hone hC hf' with ⟨hcs, hx⟩ | ⟨a, len', cap', m, D, Pl, hcs, _, hl, hm, hmm, hx, hall⟩
  · simp [Value.cells] at hcs
    obtain ⟨rfl, rfl, rfl⟩ := hcs
    exact ⟨none, 0, 0, rfl, Nat.le_refl _, .inl rfl⟩
  · simp [Value.cells] at hcs
    obtain ⟨rfl, rfl, rfl⟩ := hcs
    simp only [if_true] at hmm
    refine ⟨some a, len, cap, rfl, hl, ?_⟩
    rcases Nat.eq_zero_or_pos len with h0 | h0
    · exact .inl h0
    · right
      have one : ∀ i, i < len → ∀ j, j < fs.size → ∃ z, W.cell? (a.add (i * fs.size + j)) = some (.int .i64 z) ∧ (Lit.int .i64 z).wf = true := by
        intro i hi' j hj
        obtain ⟨ys, n, _, _, _, hy⟩ := hall i (by omega)
        obtain ⟨cv, y, hc, _, ht'⟩ := hy j fs[j] (by simp [hj])
        rw [hf j fs[j] (by simp [hj])] at ht'
        obtain ⟨z, hz, _, hw⟩ := DataW.trod_int hi ht'
        simp at hz
        subst hz
        exact ⟨z, hc, hw⟩
      · obtain ⟨z0, hz0, _⟩ := one 0 h0 0 hs
        have hsp := cell_spot hz0
        obtain ⟨b, o, s⟩ := a
        obtain rfl : s = none := by
          have := congrArg Addr.spot hsp
          simpa [Addr.add] using this
        refine ⟨b, o, rfl, hm, fun i hi' j hj => ?_⟩
        obtain ⟨z, hz, hw⟩ := one i hi' j hj
        rw [add_plain] at hz
        have : numAt W b (o + (i * fs.size + j)) = z := by unfold numAt; rw [hz]
        rw [this]
        exact ⟨hz, hw⟩
/-- the bool in a cell -/
def boolAt (w : World) (b o : Nat) : Bool := match w.cell? ⟨b, o, none⟩ with
  | some (.bool x) => x
  | _ => false
set_option maxRecDepth 100000 in
/-- a slice of bools -/
theorem bools_at {H : Type} {enc : TypeId × Value → H} {W : World} {base : Nat} {held : Bool} {t e : TypeId} {v : Value} {d : DataW H} {p : List MemPlace}
    (ht : Try.prog.underlying t = some (.slice e)) (he : Try.prog.underlying e = some .bool) (hC : Try.prog.cellsOf e = 1) (hv : Value.okWide Try.prog W .any base t v)
    (h : DataW.Trod enc Try.prog W 0 (fun _ => true) held t v d p) :
    ∃ a len cap, v = .slice a len cap ∧ len ≤ cap ∧ (len = 0 ∨ ∃ b off, a = some ⟨b, off, none⟩ ∧ cap ≤ maxLen ∧ b < W.heap.size ∧
      ∀ i, i < len → W.cell? ⟨b, off + i, none⟩ = some (.bool (boolAt W b (off + i)))) := by
  obtain ⟨a0, len, cap, rfl⟩ := okWide_slice ht hv
  obtain ⟨fuel, hf'⟩ := h
  rcases open_slice ht hf' with ⟨hcs, hx⟩ | ⟨a, len', cap', m, n, D, Pl, hcs, _, hl, hm, hmm, hx, hall⟩
  · simp [Value.cells] at hcs
    obtain ⟨rfl, rfl, rfl⟩ := hcs
    exact ⟨none, 0, 0, rfl, Nat.le_refl _, .inl rfl⟩
  · simp [Value.cells] at hcs
    obtain ⟨rfl, rfl, rfl⟩ := hcs
    simp only [if_true] at hmm
    refine ⟨some a, len, cap, rfl, hl, ?_⟩
    rcases Nat.eq_zero_or_pos len with h0 | h0
    · exact .inl h0
    · right
      have one : ∀ i, i < len → ∃ z, W.cell? (a.add i) = some (.bool z) := by
        intro i hi'
        obtain ⟨cs', hc, htr⟩ := hall i (by omega)
        rw [hC] at hc
        obtain ⟨z, rfl, _⟩ := DataW.trod_bool he htr
        obtain ⟨_, hcl, hat⟩ := World.cells?_some hc
        have := hat 0 (by simp)
        rw [Nat.mul_one] at this
        refine ⟨z, ?_⟩
        simpa [Addr.add] using this
      obtain ⟨z0, hz0⟩ := one 0 h0
      have hsp := cell_spot hz0
      obtain ⟨b, o, s⟩ := a
      obtain rfl : s = none := by
        have := congrArg Addr.spot hsp
        simpa [Addr.add] using this
      refine ⟨b, o, rfl, hm, ?_, fun i hi' => ?_⟩
      · have := World.block_lt_of_cell? _ _ hz0
        rw [add_plain] at this
        exact this
      · obtain ⟨z, hz⟩ := one i hi'
        rw [add_plain] at hz
        have : boolAt W b (o + i) = z := by unfold boolAt; rw [hz]
        rw [this]
        exact hz
end Go.Proofs.Ytpfkeohaaeiaaaa
/- SendBufEncodes: every frame is encoded, decoded unchanged, acknowledged. -/
namespace Go.Proofs.Ytpfkeohaaeiaaaa.sendBufEncodes
open Go.RowKit Go.WideShapes Go.ChangeShapes
set_option maxRecDepth 100000
set_option maxRecDepth 100000 in
set_option maxHeartbeats 16000000 in
theorem walk (many : Int) (zs : List Int) (a0 : Option Addr) (cap0 : Nat) (w : World) (hm : -9223372036854775808 ≤ many ∧ many ≤ 9223372036854775807)
    (hz : IntsAt .i64 w (.slice a0 zs.length cap0) zs) (hmz : zs.length ≤ maxLen) (hrz : ∀ n ∈ zs, (Lit.int .i64 n).wf = true) :
    Calls Try.prog 3 #[.int .i64 many, .slice a0 zs.length cap0] w fun e w' => e = .returned (.bool true) ∧ Below w.heap.size w w' := by
  unfold maxLen at hmz
  have PM := Lib.hid (fun (wx : World) => pick_any many 200 wx hm.1 hm.2 (by decide) (by decide))
  have r1 := pickF_range many 200 (by decide)
  generalize pickF many 200 = p at *
  obtain ⟨N, rfl⟩ : ∃ N : Nat, p = N := ⟨p.toNat, by omega⟩
  have hN : N < 200 := by omega
  have HZ := Lib.hid hz
  have HRZ := Lib.hid hrz
  clear hz hrz hm r1
  have NW := Lib.hid (fun (wx : World) (hB : Below w.heap.size w wx) => (show Calls Try.prog 6 #[.int .i64 200] wx fun e w' => e = .returned (.tuple #[.pointer (some ⟨wx.heap.size, 0, none⟩), .int .i64 0]) ∧ Sf w w' wx.heap.size (fun k => k = wx.heap.size) (newX ((200 : Nat) : Int)) [] (.slice none 0 0) [] from sf_new 200 (by omega) (by omega) hB))
  have ST := Lib.hid (fun (wx : World) => stream_any N wx (by omega))
  have hAs := strOfNums_size (streamRow N N)
  rw [streamRow_length] at hAs
  have HAB := Lib.hid (stream_bytes N)
  obtain ⟨Al, hAl⟩ : ∃ Al, strOfNums (streamRow N N) = Al := ⟨_, rfl⟩
  rw [hAl] at ST hAs HAB
  clear hAl
  have WR : Hid (∀ (wx : World) (b : Nat) (F : Nat → Prop), Sf w wx b F (newX ((200 : Nat) : Int)) [] (.slice none 0 0) [] → Calls Try.prog 7 #[.pointer (some ⟨b, 0, none⟩), .string Al] wx fun e w' => e = .returned (.int .i64 N) ∧ ∃ F' X', Hid (DeX 200 N N 0 0 X') ∧ Hid (Sf w w' b F' X' [] (.slice none 0 0) [])) := Lib.hid (fun wx b F h => by
    have hW := (DeX.start 200 N).write (rest := Al) (by omega) (.inl rfl) (by rw [HAB.out]; rfl)
    have hd : deN 200 N 0 0 = N := by unfold deN; omega
    rw [hd, Nat.zero_add] at hW
    refine (sf_write h Al (by unfold maxLen; omega) (by rw [hW.1]; show 0 + N ≤ _; omega)).mono (fun e w' hh => ?_)
    rw [hW.1] at hh
    exact ⟨hh.1, hh.2.choose, _, Lib.hid hW.2, Lib.hid hh.2.choose_spec⟩)
  clear HAB hAs
  have T1 : Hid (1 = 1) := Lib.hid rfl
  go_enter Try.func3, Try.ntmps3
  go_wp2_with (first
    | (go_at_call 4; refine (sane_any _).mono ?_; rintro e w1 ⟨rfl, HB2⟩; have HB := Lib.hid HB2; clear HB2)
    | (go_at_call 5; have T0 := T1.out; clear T0 T1; refine (PM.out _).mono ?_; rintro e wm ⟨rfl, rfl⟩)
    | (go_at_call 6; refine (NW.out _ HB.out).mono ?_; rintro e wn ⟨rfl, H2⟩; have H := Lib.hid H2; clear H2)
    | (go_at_call 8; refine (ST.out _).mono ?_; rintro e wk ⟨rfl, HK⟩; have H2 := H.out.same HK; clear HK H; have H := Lib.hid H2; clear H2)
    | (go_at_call 7; refine (WR.out _ _ _ H.out).mono ?_; rintro e wv ⟨rfl, F2, X2, HD2, H2⟩; clear H; have H := H2; clear H2)
    | (go_at_call 9; refine (sf_finish H.out).mono ?_; rintro e wf ⟨rfl, F3, H2⟩; clear H; have H := Lib.hid H2; clear H2; have HD := Lib.hid HD2.out.finish; clear HD2))
  clear NW PM ST WR HB
  have H0 := H
  clear H
  generalize w1.heap.size = b at *
  generalize hX0 : ({ lim := X2.lim, S := X2.S, T := X2.T, fin := true, ed := X2.ed } : Wh) = X0 at *
  have hf0 : X0.fin = true := by rw [← hX0]
  have HD0 := Lib.hid (And.intro HD.out hf0)
  clear HD hX0 hf0
  go_loopw [9] (fun i wr => ∃ (k u : Nat) (X : Wh) (F : Nat → Prop), i = .int .i64 k ∧ k ≤ 200 ∧ Hid ((DeX 200 N N u u X ∧ X.fin = true ∧ k ≤ u) ∨ DoneX N X) ∧ Hid (Sf w wr b F X [] (.slice none 0 0) [])) (fun i _ => 300 - (intOf i).toNat)
  case atStart => exact ⟨0, 0, X0, F3, rfl, by decide, Lib.hid (.inl ⟨HD0.out.1, HD0.out.2, Nat.le_refl _⟩), H0⟩
  case round =>
    obtain ⟨k, u, X, F, rfl, hk2, HD, H⟩ := hrel
    clear H0 HD0
    have hk21 : decide ((k : Int) < 210) = true := decide_eq_true (by omega)
    go_upto_if 43 with fail
    go_cut [10] from 37 to 89 (fun s10 w' => (∃ sz : Nat, s10 = .int .i64 sz ∧ 1 ≤ sz ∧ sz ≤ 40) ∧ w' = wr)
    case first =>
      by_cases h0 : zs.length = 0
      · have hb : decide (0 < zs.length) = false := decide_eq_false (by omega)
        go_wp2
        go_meet
        exact ⟨⟨9, rfl, by decide, by decide⟩, rfl⟩
      · have hb : decide (0 < zs.length) = true := decide_eq_true (by omega)
        obtain ⟨j, hj⟩ : ∃ j, k % zs.length = j := ⟨_, rfl⟩
        have hjl : j < zs.length := by rw [← hj]; exact Nat.mod_lt _ (by omega)
        have hm1 : (k : Int) % (zs.length : Int) = (j : Int) := by rw [← hj]; rfl
        have hm2 : (k : Int).tmod (zs.length : Int) = (j : Int) := by rw [Int.tmod_eq_emod_of_nonneg (by omega)]; exact hm1
        have hm3 : IntKind.i64.wrap (j : Int) = (j : Int) := IntWalk.i64_in _ (by omega)
        have hxw := bounds_i64 (HRZ.out (zs[j]?.getD 0) (by simp [hjl]))
        obtain ⟨b4, off4, hz4, hx4⟩ : ∃ b4 off4, a0 = some ⟨b4, off4, none⟩ ∧ wr.cell? ⟨b4, off4 + j, none⟩ = some (.int .i64 (zs[j]?.getD 0)) ∧ zs.length ≤ cap0 ∧ cap0 ≤ maxLen := by
          rcases HZ.out with ⟨_, _, e, _, h0⟩ | ⟨b4, off4, c4, e, h0, hl4, hc4, hx4⟩
          · rw [h0] at hjl; simp at hjl
          · simp only [Value.slice.injEq] at e
            obtain ⟨e1, _, rfl⟩ := e
            exact ⟨b4, off4, e1, (H.out.below.cell (p := ⟨b4, off4 + j, none⟩) (World.block_lt_of_cell? _ _ (hx4 j hjl))).trans (hx4 j hjl), hl4, hc4⟩
        obtain ⟨hx4, hl4, hc4⟩ := hx4
        unfold maxLen at hc4
        subst hz4
        generalize zs[j]?.getD 0 = x at *
        have PX := Lib.hid (fun (wx : World) => pick_any x 40 wx hxw.1 hxw.2 (by decide) (by decide))
        have rx := pickF_range x 40 (by decide)
        generalize pickF x 40 = c at *
        obtain ⟨c, rfl⟩ : ∃ c' : Nat, c = c' := ⟨c.toNat, by omega⟩
        clear hxw hj
        go_wp2_with (go_at_call 5; refine (PX.out _).mono ?_; rintro e wm ⟨rfl, rfl⟩)
        go_meet
        exact ⟨⟨c + 1, by simp; omega, by omega, by omega⟩, rfl⟩
    case rest =>
    obtain ⟨⟨sz, rfl, hz1, hz2⟩, rfl⟩ := hcut
    rcases HD.out with ⟨hD, hXf, hku⟩ | hD
    · clear HD
      have hus := hD.us
      have haN := hD.aN
      have hsa := hD.sa
      obtain ⟨str, fin, hR, hsz, hby, hf, hem, hO⟩ := hD.frame hz1 (by omega) (fun _ => hXf) H.out.ok
      have hp := hD.nextC (c := 1000) hz1 (by omega) (fun _ => hXf)
      have hle := deT_le hD.us hD.sa sz
      have htu : deT N u u sz - u ≤ 40 := by unfold deT; split <;> omega
      have NX : Hid (∀ (wx : World) (F : Nat → Prop) (os : List (Nat × Obj)), Sf w wx b F X os (.slice none 0 0) [] → Calls Try.prog 10 #[.pointer (some ⟨b, 0, none⟩), .int .i64 sz, .int .i64 1000] wx fun e w' => ∃ V, Hid (V = .agg (mkFr 8 u str fin).cells) ∧ e = .returned (.tuple #[V, .bool true]) ∧ ∃ F', Sf w w' b F' (X.nextX (some (u, deT N u u sz))) os (.slice none 0 0) []) := Lib.hid (fun wx F os h => (sf_next h sz 1000).mono (fun e w' hh => by
        rw [show ((1000 : Int)) = ((1000 : Nat) : Int) from rfl, hp, hR] at hh; exact ⟨_, Lib.hid rfl, hh⟩))
      have HA := Lib.hid (fun h : fin = false => (show DeX 200 N N (deT N u u sz) (max u (deT N u u sz)) _ ∧ ((X.nextX (some (u, deT N u u sz))).acked (mkFr 8 u str fin)).fin = true from ⟨hD.acked hsz hf hO h, by unfold Wh.acked; split <;> exact hXf⟩))
      have HDn := Lib.hid (fun h : fin = true => hD.done hsz hf hO h)
      have ER := Lib.hid hO.err
      have ON : Hid ((mkFr 8 u str fin).cells.all (·.oneCell') = true) := Lib.hid (one35 _ _ _ _)
      obtain ⟨S, hS, hEn, hDc⟩ := sf_encode u str fin (by omega) (by omega)
      have EN := Lib.hid hEn
      have DC := Lib.hid hDc
      have HEM := Lib.hid hem
      have AC : Hid (∀ (wx : World) (F : Nat → Prop) (os : List (Nat × Obj)), Sf w wx b F (X.nextX (some (u, deT N u u sz))) os (.slice none 0 0) [] → Calls Try.prog 13 #[.pointer (some ⟨b, 0, none⟩), (mkFr 8 u str fin).val] wx fun e w' => e = .returned (.int .i64 0) ∧ ∃ F', Sf w w' b F' ((X.nextX (some (u, deT N u u sz))).acked (mkFr 8 u str fin)) os (.slice none 0 0) []) := Lib.hid (fun wx F os h => by have := sf_acked h (mkFr 8 u str fin); rw [ER.out] at this; exact this)
      clear hR hp hf hO hby hem hEn hDc hD hXf htu hsz
      generalize X.nextX (some (u, deT N u u sz)) = X4 at *
      generalize deT N u u sz = tt at *
      generalize mkFr 8 (u : Int) str fin = f at *
      go_wp2_with (first
        | (go_at_call 10; refine (NX.out _ _ _ H.out).mono ?_; rintro e wx ⟨V, HV, rfl, F4, H2⟩; clear H; have H := Lib.hid H2; clear H2)
        | (go_at_call 11; refine (EN.out _).mono ?_; rintro e we ⟨rfl, hbe⟩; have H2 := H.out.same hbe; clear H hbe; have H := Lib.hid H2; clear H2)
        | (go_at_call 12; refine (DC.out _).mono ?_; rintro e wd ⟨V2, HV2, rfl, hbd⟩; have H2 := H.out.same hbd; clear H hbd; have H := Lib.hid H2; clear H2)
        | (refine wpList_store_new rfl _ _ rfl f ON.out _ (by rfl) (by rfl) (by exact HV2.out) ?_; have H2 := H.out.frame f; clear H HV2; have H := Lib.hid H2; clear H2; generalize wd.alloc (.cells f.cells 33) = wq2 at *)
        | (refine wpList_store_new rfl _ _ rfl f ON.out _ (by rfl) (by rfl) (by exact HV.out) ?_; have H2 := H.out.frame f; clear H HV; have H := Lib.hid H2; clear H2; generalize wx.alloc (.cells f.cells 33) = wq at *)
        | (refine wpList_load_row_g rfl 33 _ rfl wd.heap.size rfl 33 f.cells (0, 0) _ (H.out.fr (by simp)) Try.underlying33 rfl (size33 f) ?_)
        | (refine wpList_load_own rfl _ rfl f wx.heap.size rfl (H.out.fr (by simp)) ?_)
        | (go_at_call 13; refine (AC.out _ _ _ H.out).mono ?_; rintro e wl ⟨rfl, F5, H2⟩; clear H; have H := Lib.hid H2; clear H2))
      go_roundw
      case rel =>
        have H3 := H.out.sub (os' := []) (by simp)
        cases hfn : fin
        · have hd := HA.out hfn
          have : tt ≠ u := fun e => by have := HEM.out e; rw [hfn] at this; cases this
          have hmx : max u tt = tt := by omega
          rw [hmx] at hd
          exact ⟨k + 1, tt, _, F5, by simp, by omega, Lib.hid (.inl ⟨hd.1, hd.2, by omega⟩), Lib.hid H3⟩
        · obtain ⟨e1, e2, hd⟩ := HDn.out hfn
          exact ⟨k + 1, tt, _, F5, by simp, by omega, Lib.hid (.inr hd), Lib.hid H3⟩
      case measure => simp [intOf]; omega
    · clear HD
      have DN : Hid (∀ (wx : World) (F : Nat → Prop) (os : List (Nat × Obj)), Sf w wx b F X os (.slice none 0 0) [] → Calls Try.prog 14 #[.pointer (some ⟨b, 0, none⟩)] wx fun e w' => e = .returned (.bool true) ∧ wx = w') := Lib.hid (fun wx F os h => by have := sf_done h; rw [hD.done] at this; exact this)
      have NX : Hid (∀ (wx : World) (F : Nat → Prop) (os : List (Nat × Obj)), Sf w wx b F X os (.slice none 0 0) [] → Calls Try.prog 10 #[.pointer (some ⟨b, 0, none⟩), .int .i64 sz, .int .i64 1000] wx fun e w' => ∃ V, Hid (V = .agg fr0.cells) ∧ e = .returned (.tuple #[V, .bool false]) ∧ ∃ F', Sf w w' b F' X os (.slice none 0 0) []) := Lib.hid (fun wx F os h => (sf_next h sz 1000).mono (fun e w' hh => by rw [show ((1000 : Int)) = ((1000 : Nat) : Int) from rfl, hD.nextC] at hh; exact ⟨_, Lib.hid rfl, hh⟩))
      have WN : Hid (∀ (wx : World) (F : Nat → Prop) (os : List (Nat × Obj)), Sf w wx b F X os (.slice none 0 0) [] → Calls Try.prog 15 #[.pointer (some ⟨b, 0, none⟩)] wx fun e w' => e = .returned (.int .i64 N) ∧ Below wx.heap.size wx w') := Lib.hid (fun wx F os h => (sf_written h).mono (fun e w' hh => by obtain ⟨he, n, rfl⟩ := hh; rw [hD.len] at he; exact ⟨he, belowN (Below.refl _ wx) n⟩))
      have OZ : Hid (fr0.cells.all (·.oneCell') = true) := Lib.hid (one35 _ _ _ _)
      clear hD
      go_wp2_with (first
        | (go_at_call 10; refine (NX.out _ _ _ H.out).mono ?_; rintro e wx ⟨V, HV, rfl, F2, H2⟩; clear H; have H := Lib.hid H2; clear H2)
        | (refine wpList_store_new rfl _ _ rfl fr0 OZ.out _ (by rfl) (by rfl) (by exact HV.out) ?_; have H2 := H.out.frame fr0; clear H HV; have H := Lib.hid H2; clear H2; generalize wx.alloc (.cells fr0.cells 33) = wq at *)
        | (go_at_call 14; refine (DN.out _ _ _ H.out).mono ?_; rintro e ws ⟨rfl, rfl⟩)
        | (go_at_call 15; refine (WN.out _ _ _ H.out).mono ?_; rintro e wv ⟨rfl, hbv⟩; have H2 := H.out.same hbv; clear H hbv; have H := Lib.hid H2; clear H2))
      go_ret
      exact ⟨rfl, H.out.below⟩
theorem cells3 : Try.prog.cellsOf 3 = 1 := by kernel_rfl
theorem main {H : Type} {enc : TypeId × Value → H} (W : World) (base0 : Nat) (v0 : Value) (d0 : DataW H) (p0 : List MemPlace) (hv0 : Value.okWide Try.prog W .any base0 3 v0) (h0 : DataW.Trod enc Try.prog W 0 (fun _ => true) true 3 v0 d0 p0)
    (base1 : Nat) (v1 : Value) (d1 : DataW H) (p1 : List MemPlace) (hv1 : Value.okWide Try.prog W .any base1 22 v1) (h1 : DataW.Trod enc Try.prog W 0 (fun _ => true) true 22 v1 d1 p1) :
    Calls Try.prog 3 #[v0, v1] W fun e w' => e = .returned (.bool true) ∧ Below W.heap.size W w' := by
  obtain ⟨a0, rfl, _, _, w0⟩ := open_int Try.underlying3 hv0 h0
  obtain ⟨zs, hz, hmz, hrz⟩ := ints_at Try.underlying22 Try.underlying3 cells3 hv1 h1
  obtain ⟨a1, cap1, rfl, _⟩ := hz.form
  exact walk a0 zs a1 cap1 W (bounds_i64 w0) hz hmz hrz
end Go.Proofs.Ytpfkeohaaeiaaaa.sendBufEncodes
