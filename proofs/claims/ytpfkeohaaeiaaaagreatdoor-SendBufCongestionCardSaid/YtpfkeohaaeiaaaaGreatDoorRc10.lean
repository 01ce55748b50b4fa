/- Texts Rpa of this claim, one behind the other. -/
import Derived.Test.YtpfkeohaaeiaaaaGreatDoorRc1
/- Reassembly: plain laws on its window. -/
namespace Go.Proofs.YtpfkeohaaeiaaaaGreatDoor.rea
abbrev gd (l : List Int) (j : Nat) : Int := l[j]?.getD 0
theorem ext_gd {l m : List Int} (hl : l.length = m.length) (h : ∀ j, j < l.length → gd l j = gd m j) : l = m := by
  apply List.ext_getElem hl
  intro j h1 h2
  have := h j h1
  simpa [gd, h1, h2] using this
theorem gd_set (l : List Int) (k j : Nat) (v : Int) (h : k < l.length) : gd (l.set k v) j = if j = k then v else gd l j := by
  unfold gd
  rw [List.getElem?_set]
  by_cases e : k = j
  · subst e; simp [h]
  · rw [if_neg e, if_neg (fun h => e h.symm)]
/-! a reassembly buffer as plain data: the window's bytes and which of them are there -/
def hg (l : List Bool) (j : Nat) : Bool := l[j]?.getD false
theorem hg_set (l : List Bool) (k j : Nat) (v : Bool) (h : k < l.length) : hg (l.set k v) j = if j = k then v else hg l j := by
  unfold hg
  rw [List.getElem?_set]
  by_cases e : k = j
  · subst e; simp [h]
  · rw [if_neg e, if_neg (fun h => e h.symm)]
theorem ext_hg {l m : List Bool} (hl : l.length = m.length) (h : ∀ j, j < l.length → hg l j = hg m j) : l = m := by
  apply List.ext_getElem hl
  intro j h1 h2
  have := h j h1
  simpa [hg, h1, h2] using this
/-- the window begins at a; the first i bytes of the piece s at off are put into it -/
def putB (a off : Int) (s : List Int) (i : Nat) (bs : List Int) : List Int := (List.range bs.length).map fun (k : Nat) => if off ≤ a + (k : Int) ∧ a + (k : Int) < off + (i : Int) then gd s (a + (k : Int) - off).toNat else gd bs k
def putH (a off : Int) (i : Nat) (hs : List Bool) : List Bool := (List.range hs.length).map fun (k : Nat) => decide (off ≤ a + (k : Int) ∧ a + (k : Int) < off + (i : Int)) || hg hs k
theorem putB_length (a off : Int) (s : List Int) (i : Nat) (bs : List Int) : (putB a off s i bs).length = bs.length := by simp [putB]
theorem putH_length (a off : Int) (i : Nat) (hs : List Bool) : (putH a off i hs).length = hs.length := by simp [putH]
theorem gd_putB (a off : Int) (s : List Int) (i : Nat) (bs : List Int) (k : Nat) (h : k < bs.length) : gd (putB a off s i bs) k = if off ≤ a + (k : Int) ∧ a + (k : Int) < off + (i : Int) then gd s (a + (k : Int) - off).toNat else gd bs k := by simp [gd, putB, h]
theorem hg_putH (a off : Int) (i : Nat) (hs : List Bool) (k : Nat) (h : k < hs.length) : hg (putH a off i hs) k = (decide (off ≤ a + (k : Int) ∧ a + (k : Int) < off + (i : Int)) || hg hs k) := by simp [hg, putH, h]
/-- the first index of a piece that lies in the window, and behind the last -/
def ovA (a off : Int) : Nat := (a - off).toNat
def ovB (a off : Int) (w n : Nat) : Nat := max (ovA a off) (min n (a + (w : Int) - off).toNat)
theorem putB_start (a off : Int) (s : List Int) (bs : List Int) : putB a off s (ovA a off) bs = bs := by
  refine ext_gd (putB_length _ _ _ _ _) (fun j hj => ?_)
  rw [putB_length] at hj
  rw [gd_putB _ _ _ _ _ _ hj, if_neg]
  unfold ovA; omega
theorem putH_start (a off : Int) (hs : List Bool) : putH a off (ovA a off) hs = hs := by
  refine ext_hg (putH_length _ _ _ _) (fun j hj => ?_)
  rw [putH_length] at hj
  rw [hg_putH _ _ _ _ _ hj, decide_eq_false, Bool.false_or]
  unfold ovA; omega
theorem putB_succ (a off : Int) (s : List Int) (i : Nat) (bs : List Int) (k : Nat) (h : off + (i : Int) = a + (k : Int)) (hk : k < bs.length) : putB a off s (i + 1) bs = (putB a off s i bs).set k (gd s i) := by
  refine ext_gd (by simp [putB_length]) (fun j hj => ?_)
  rw [putB_length] at hj
  rw [gd_set _ _ _ _ (by rw [putB_length]; exact hk), gd_putB _ _ _ _ _ _ hj, gd_putB _ _ _ _ _ _ hj]
  by_cases e : j = k
  · subst e
    rw [if_pos rfl, if_pos (by omega)]
    congr 1; omega
  · rw [if_neg e]
    by_cases c : off ≤ a + (j : Int) ∧ a + (j : Int) < off + (i : Int)
    · rw [if_pos c, if_pos (by omega)]
    · rw [if_neg c, if_neg (by omega)]
theorem putH_succ (a off : Int) (i : Nat) (hs : List Bool) (k : Nat) (h : off + (i : Int) = a + (k : Int)) (hk : k < hs.length) : putH a off (i + 1) hs = (putH a off i hs).set k true := by
  refine ext_hg (by simp [putH_length]) (fun j hj => ?_)
  rw [putH_length] at hj
  rw [hg_set _ _ _ _ (by rw [putH_length]; exact hk), hg_putH _ _ _ _ _ hj, hg_putH _ _ _ _ _ hj]
  by_cases e : j = k
  · subst e
    rw [if_pos rfl, decide_eq_true (by omega), Bool.true_or]
  · rw [if_neg e]
    congr 1
    apply decide_eq_decide.2; omega
theorem putB_end (a off : Int) (s : List Int) (w n : Nat) (bs : List Int) (hw : bs.length = w) : putB a off s (ovB a off w n) bs = putB a off s n bs := by
  refine ext_gd (by simp [putB_length]) (fun j hj => ?_)
  rw [putB_length] at hj
  rw [gd_putB _ _ _ _ _ _ hj, gd_putB _ _ _ _ _ _ hj]
  have : (off ≤ a + (j : Int) ∧ a + (j : Int) < off + (ovB a off w n : Nat)) ↔ (off ≤ a + (j : Int) ∧ a + (j : Int) < off + (n : Int)) := by unfold ovB ovA; omega
  simp only [this]
theorem putH_end (a off : Int) (w n : Nat) (hs : List Bool) (hw : hs.length = w) : putH a off (ovB a off w n) hs = putH a off n hs := by
  refine ext_hg (by simp [putH_length]) (fun j hj => ?_)
  rw [putH_length] at hj
  rw [hg_putH _ _ _ _ _ hj, hg_putH _ _ _ _ _ hj]
  have : (off ≤ a + (j : Int) ∧ a + (j : Int) < off + (ovB a off w n : Nat)) ↔ (off ≤ a + (j : Int) ∧ a + (j : Int) < off + (n : Int)) := by unfold ovB ovA; omega
  simp only [this]
/-- byte i of the piece (at k of the window) agrees -/
def agAt (bs : List Int) (hs : List Bool) (s : List Int) (i k : Nat) : Bool := !hg hs k || decide (gd bs k = gd s i)
/-- the indexes with their places in the window -/
def ovl (a off : Int) (w n : Nat) : List (Nat × Nat) := (List.range (ovB a off w n - ovA a off)).map fun j => (ovA a off + j, (off + (ovA a off + j : Nat) - a).toNat)
def agF (a : Int) (bs : List Int) (hs : List Bool) (off : Int) (s : List Int) : Bool := (ovl a off bs.length s.length).all fun x => agAt bs hs s x.1 x.2
theorem ovl_mem {a off : Int} {w n : Nat} {x : Nat × Nat} (h : x ∈ ovl a off w n) : x.1 < n ∧ x.2 < w ∧ off + (x.1 : Int) = a + (x.2 : Int) := by
  simp only [ovl, List.mem_map, List.mem_range] at h
  obtain ⟨j, hj, rfl⟩ := h
  simp only
  unfold ovB at hj
  unfold ovA at *
  omega
theorem agF_true {a off : Int} {bs : List Int} {hs : List Bool} {s : List Int} (h : ∀ i k, i < s.length → k < bs.length → off + (i : Int) = a + (k : Int) → hg hs k = true → gd bs k = gd s i) : agF a bs hs off s = true := by
  unfold agF
  rw [List.all_eq_true]
  intro x hx
  obtain ⟨h1, h2, h3⟩ := ovl_mem hx
  unfold agAt
  cases e : hg hs x.2
  · rfl
  · rw [h _ _ h1 h2 h3 e]; simp
/-- how many bytes are ready -/
def readyF : List Bool → Nat
  | [] => 0
  | false :: _ => 0
  | true :: l => readyF l + 1
theorem readyF_le (l : List Bool) : readyF l ≤ l.length := by
  induction l with
  | nil => exact Nat.le_refl _
  | cons b l ih => cases b <;> simp [readyF]; exact ih
theorem readyF_lt (l : List Bool) : ∀ k, k < readyF l → hg l k = true := by
  induction l with
  | nil => intro k h; simp [readyF] at h
  | cons b l ih =>
    cases b
    · intro k h; simp [readyF] at h
    · intro k h
      cases k with
      | zero => rfl
      | succ k => simp only [readyF] at h; have := ih k (by omega); simpa [hg] using this
theorem readyF_at (l : List Bool) : readyF l < l.length → hg l (readyF l) = false := by
  induction l with
  | nil => intro h; simp at h
  | cons b l ih =>
    cases b
    · intro _; rfl
    · intro h
      simp only [readyF, List.length_cons] at h ⊢
      have := ih (by omega)
      simpa [hg] using this
/-- n bytes taken from the front -/
def takeB (n : Nat) (bs : List Int) : List Int := bs.drop n ++ List.replicate (min n bs.length) 0
def takeH (n : Nat) (hs : List Bool) : List Bool := hs.drop n ++ List.replicate (min n hs.length) false
theorem takeB_length (n : Nat) (bs : List Int) : (takeB n bs).length = bs.length := by simp [takeB]; omega
theorem takeH_length (n : Nat) (hs : List Bool) : (takeH n hs).length = hs.length := by simp [takeH]; omega
theorem hg_takeH (n k : Nat) (hs : List Bool) (h : n ≤ hs.length) : hg (takeH n hs) k = if n + k < hs.length then hg hs (n + k) else false := by
  unfold takeH hg
  by_cases e : n + k < hs.length
  · rw [if_pos e, List.getElem?_append_left (by simp; omega), List.getElem?_drop]
  · rw [if_neg e, List.getElem?_append_right (by simp; omega)]
    by_cases e2 : k - (hs.drop n).length < min n hs.length
    · rw [List.getElem?_replicate, if_pos e2]; rfl
    · rw [List.getElem?_replicate, if_neg e2]; rfl
theorem gd_takeB (n k : Nat) (bs : List Int) (h : n ≤ bs.length) : gd (takeB n bs) k = if n + k < bs.length then gd bs (n + k) else 0 := by
  unfold takeB gd
  by_cases e : n + k < bs.length
  · rw [if_pos e, List.getElem?_append_left (by simp; omega), List.getElem?_drop]
  · rw [if_neg e, List.getElem?_append_right (by simp; omega)]
    by_cases e2 : k - (bs.drop n).length < min n bs.length
    · rw [List.getElem?_replicate, if_pos e2]; rfl
    · rw [List.getElem?_replicate, if_neg e2]; rfl
end Go.Proofs.YtpfkeohaaeiaaaaGreatDoor.rea
