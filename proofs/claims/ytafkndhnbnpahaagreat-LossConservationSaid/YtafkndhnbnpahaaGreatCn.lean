/- Law 13: count. -/
import Derived.Test.YtafkndhnbnpahaaGreatZm
import Derived.Test.YtafkndhnbnpahaaGreatAj
import Derived.Laws.OwnMore
namespace Go.Proofs.YtafkndhnbnpahaaGreat
open Go.RowKit Go.WideShapes Go.ChangeShapes
def ints (l : List Int) : List Value := l.map (.int .i64)
def inR (v : Value) (l : List Int) : Rw := ⟨3, 1, v, l.length, ints l⟩
/-- how many packets of the list have number i -/
def cntP (l : List Pk) (i : Nat) : Int := ((l.filter (fun p => p.pn == (i : Int))).length : Int)
def bump1 (T : List Int) (p : Pk) : List Int := T.set p.pn.toNat (T[p.pn.toNat]?.getD 0 + 1)
def bump (T : List Int) (l : List Pk) : List Int := l.foldl bump1 T
theorem bump1_len (T : List Int) (p : Pk) : (bump1 T p).length = T.length := by simp [bump1]
theorem bump_len (l : List Pk) : ∀ T, (bump T l).length = T.length := by
  induction l with
  | nil => intro T; rfl
  | cons p l ih => intro T; show (bump (bump1 T p) l).length = _; rw [ih, bump1_len]
theorem bump_snoc (T : List Int) (l : List Pk) (p : Pk) : bump T (l ++ [p]) = bump1 (bump T l) p := by simp [bump]
theorem cntP_nil (i : Nat) : cntP [] i = 0 := rfl
theorem cntP_snoc (l : List Pk) (p : Pk) (i : Nat) : cntP (l ++ [p]) i = cntP l i + if p.pn = i then 1 else 0 := by
  unfold cntP
  rw [List.filter_append]
  by_cases h : p.pn = i <;> simp [h]
theorem cntP_cons (l : List Pk) (p : Pk) (i : Nat) : cntP (p :: l) i = cntP l i + if p.pn = i then 1 else 0 := by
  unfold cntP
  by_cases h : p.pn = i <;> simp [h]
theorem cntP_nonneg (l : List Pk) (i : Nat) : 0 ≤ cntP l i := Int.natCast_nonneg _
theorem cntP_le (l : List Pk) (i : Nat) : cntP l i ≤ l.length := by
  unfold cntP
  have := List.length_filter_le (fun p : Pk => p.pn == (i : Int)) l
  omega
theorem bump1_get (T : List Int) (p : Pk) (i : Nat) (hi : i < T.length) (h0 : 0 ≤ p.pn) : (bump1 T p)[i]?.getD 0 = T[i]?.getD 0 + if p.pn = i then 1 else 0 := by
  unfold bump1
  rw [List.getElem?_set]
  by_cases h : p.pn = i
  · have : p.pn.toNat = i := by omega
    simp [h, hi]
  · have : p.pn.toNat ≠ i := by omega
    simp [h, this]
theorem bump_get (l : List Pk) : ∀ (T : List Int) (i : Nat), i < T.length → (∀ p ∈ l, 0 ≤ p.pn) → (bump T l)[i]?.getD 0 = T[i]?.getD 0 + cntP l i := by
  induction l with
  | nil => intro T i _ _; show T[i]?.getD 0 = _; simp [cntP]
  | cons p l ih =>
    intro T i hi h
    show (bump (bump1 T p) l)[i]?.getD 0 = _
    rw [ih _ _ (by rw [bump1_len]; exact hi) (fun q hq => h q (by simp [hq])), bump1_get _ _ _ hi (h p (by simp)), cntP_cons]
    omega
theorem cntP_split (f : Pk → Bool) (l : List Pk) (i : Nat) : cntP (l.filter f) i + cntP (l.filter (fun p => !f p)) i = cntP l i := by
  induction l with
  | nil => rfl
  | cons p l ih =>
    by_cases h : f p
    · simp only [List.filter_cons, h, if_true, Bool.not_true, Bool.false_eq_true, if_false, cntP_cons]; omega
    · simp only [List.filter_cons, h, if_false, Bool.not_false, Bool.false_eq_true, if_true, cntP_cons]; omega
theorem ints_get (T : List Int) (j : Nat) (hj : j < T.length) : (ints T)[j]? = some (.int .i64 (T[j]?.getD 0)) := by
  unfold ints
  rw [List.getElem?_map, List.getElem?_eq_getElem hj]; rfl
theorem ints_set (T : List Int) (j : Nat) (x : Int) : (ints T).set j (.int .i64 x) = ints (T.set j x) := by
  unfold ints
  rw [List.map_set]
theorem PkRow.apart {B B' g n cap : Nat} {w w' : World} {v : Value} {l : List Pk} {xs : List Value} (h : PkRow B w v l) (hr : w.ownsRow B' 3 1 (.slice (some ⟨g, 0, none⟩) n cap) n xs) (ht : Tu g g w w') : PkRow B w' v l := by
  refine ⟨⟨h.1.1, ?_⟩, h.2⟩
  rcases h.1.2 with h1 | ⟨g1, c1, cur, rfl, hb, hgg, rest⟩
  · exact .inl h1
  · have hne : g1 ≠ g := fun e => by
      subst e
      rcases hr.2 with ⟨h', _⟩ | ⟨g', cap', cur', h', _, hg, _⟩
      · simp at h'
      · simp only [Value.slice.injEq, Option.some.injEq, Addr.mk.injEq, and_true, true_and] at h'
        obtain ⟨rfl, rfl⟩ := h'
        rw [hgg] at hg
        cases hg
    exact .inr ⟨g1, c1, cur, rfl, hb, (ht.block g1 (heap_lt hgg) hne hne).trans hgg, rest⟩
/-- every number of the list is that of a counter -/
def InT (T : List Int) (l : List Pk) : Prop := ∀ p ∈ l, 0 ≤ p.pn ∧ p.pn < T.length
def Few (T : List Int) : Prop := T.length ≤ 10000 ∧ ∀ i : Nat, 0 ≤ T[i]?.getD 0 ∧ T[i]?.getD 0 ≤ 1000000
theorem Few.bump {T : List Int} {l : List Pk} (h : Few T) (hl : InT T l) (i : Nat) (hi : i < T.length) : 0 ≤ (bump T l)[i]?.getD 0 ∧ (bump T l)[i]?.getD 0 ≤ 1000000 + l.length := by
  rw [bump_get l T i hi (fun p hp => (hl p hp).1)]
  have := h.2 i
  have := cntP_nonneg l i
  have := cntP_le l i
  omega
def CntPost (B : Nat) (tv : Value) (T : List Int) (l : List Pk) (g : Nat) (w : World) (e : Ending) (w' : World) : Prop :=
  e = .returned (.bool true) ∧ w'.ownsRow B 3 1 tv (bump T l).length (ints (bump T l)) ∧ Tu g g w w'
set_option maxRecDepth 100000 in
set_option maxHeartbeats 4000000 in
theorem count_any (g cap : Nat) (B B' : Nat) (T : List Int) (v : Value) (l : List Pk) (w : World) (hr : w.ownsRow B 3 1 (.slice (some ⟨g, 0, none⟩) T.length cap) T.length (ints T)) (hp : PkRow B' w v l) (hin : InT T l) (hf : Few T) (hll : l.length ≤ 10000) :
    Calls Tryz.prog 32 #[.slice (some ⟨g, 0, none⟩) T.length cap, v] w (CntPost B (.slice (some ⟨g, 0, none⟩) T.length cap) T l g w) := by
  have hfm := hp.form
  have hv : ∃ a c, v = .slice a l.length c := by
    rcases hfm with ⟨rfl, rfl⟩ | ⟨g1, c1, cur, rfl, _⟩
    · exact ⟨_, _, rfl⟩
    · exact ⟨_, _, rfl⟩
  obtain ⟨a, c, rfl⟩ := hv
  have HP := Lib.hid hp
  have HR := Lib.hid hr
  have HIN := Lib.hid hin
  have HF := Lib.hid hf
  have hT := hf.1
  clear hp hr hin hf hfm
  go_enter Tryz.func32, Tryz.ntmps32
  go_wp2_with fail
  go_loopw [5] (fun i wr => ∃ j : Nat, j ≤ l.length ∧ i = .int .i64 j ∧ wr.ownsRow B 3 1 (.slice (some ⟨g, 0, none⟩) T.length cap) (bump T (l.take j)).length (ints (bump T (l.take j))) ∧ Tu g g w wr) (fun i _ => l.length - (intOf i).toNat)
  case atStart => exact ⟨0, by omega, rfl, HR.out, Tu.refl _ _ _⟩
  case round =>
    obtain ⟨j, hj, rfl, h1, h2⟩ := hrel
    have HJ := Lib.hid (And.intro h1 h2)
    clear h1 h2
    by_cases hjl : j < l.length
    · have hpn := HIN.out (l[j]'hjl) (List.getElem_mem hjl)
      have PJ := HP.out.apart HR.out HJ.out.2
      rcases PJ.form with ⟨_, h0⟩ | ⟨g1, c1, cur, e, hpos, hcap, hcm, _, _, hcell⟩
      · rw [h0] at hjl; cases hjl
      · cases e
        have q0 := (hcell j hjl).1
        have TK := Lib.hid (show l.take (j + 1) = l.take j ++ [l[j]'hjl] from by rw [List.take_add_one, List.getElem?_eq_getElem hjl]; rfl)
        have SN := Lib.hid (bump_snoc T (l.take j) (l[j]'hjl))
        clear hcell
        generalize l[j]'hjl = p at *
        obtain ⟨m, hm⟩ : ∃ m : Nat, p.pn = m := ⟨p.pn.toNat, by omega⟩
        have hmt : m < T.length := by omega
        rw [hm] at q0
        have hbl := bump_len (l.take j) T
        have hb := HF.out.bump (l := l.take j) (fun q hq => HIN.out q (List.mem_of_mem_take hq)) m hmt
        have hlj : (l.take j).length ≤ 10000 := by rw [List.length_take]; omega
        have hrow : wr.ownsRow B 3 1 (.slice (some ⟨g, 0, none⟩) T.length cap) T.length (ints (bump T (l.take j))) := by have := HJ.out.1; rw [hbl] at this; exact this
        have c0 := hrow.cellAt m (by omega)
        rw [ints_get _ _ (by omega)] at c0
        have z0 := hrow.frozenAt m
        obtain ⟨x, hx⟩ : ∃ x, (bump T (l.take j))[m]?.getD 0 = x := ⟨_, rfl⟩
        have ST := Lib.hid (hrow.stored m (.int .i64 (x + 1)))
        have BB := Lib.hid (show bump1 (bump T (l.take j)) p = (bump T (l.take j)).set m (x + 1) from by unfold bump1; rw [hm, Int.toNat_natCast, hx])
        rw [hx] at c0 hb
        obtain ⟨hb0, hb1⟩ := hb
        have HL1 := Lib.hid hbl
        have i0 : (0 : Int) ≤ (j : Int) := by omega
        have i1 : (j : Int) < (l.length : Int) := by omega
        have i2 : ((m : Int) < 0) = False := eq_false (by omega)
        have i3 : ((T.length : Int) ≤ (m : Int)) = False := eq_false (by omega)
        have i4 : (m : Int) < (T.length : Int) := by omega
        have i5 : x ≤ 2000000 := by omega
        clear hm hx hbl hrow hpn PJ hlj hb1
        unfold maxLen at hcm
        go_wp2
        go_roundw
        case rel =>
          refine ⟨j + 1, by omega, by go_num, ?_, HJ.out.2.trans (Tu.set _ _ _)⟩
          rw [TK.out, SN.out, BB.out, List.length_set, HL1.out, ← ints_set]
          exact ST.out.1
        case measure => simp [intOf]; omega
    · obtain rfl : j = l.length := by omega
      have HE := Lib.hid (show wr.ownsRow B 3 1 (.slice (some ⟨g, 0, none⟩) T.length cap) (bump T l).length (ints (bump T l)) ∧ Tu g g w wr from by have := HJ.out; rw [List.take_length] at this; exact this)
      clear HJ hjl hj
      go_wp2
      go_ret
      exact ⟨rfl, HE.out.1, HE.out.2⟩
end Go.Proofs.YtafkndhnbnpahaaGreat
