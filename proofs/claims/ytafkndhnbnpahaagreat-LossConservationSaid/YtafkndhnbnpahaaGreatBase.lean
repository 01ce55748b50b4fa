/- Small lemmas on worlds that every text of this seat uses: what lies below a heap's size stays, and the row's last step from 'Below' alone. -/
import Derived.WalkKit
import Derived.ProofKit
import Derived.OpenShut
import Derived.Below
import Derived.ChangeSame
import Derived.Lib.Hide
import Derived.Handy
import Derived.ChangeBook
import Derived.ChangeStays
import Derived.ChangeSlices
import Derived.Test.YtafkndhnbnpahaaGreatProg
namespace Go.Proofs.YtafkndhnbnpahaaGreat
open Go.RowKit Go.WideShapes Go.ChangeShapes
theorem btrans {a b c : World} (h : Below a.heap.size a b) (k : Below b.heap.size b c) : Below a.heap.size a c := h.trans (k.mono h.size)
theorem bcell {W w1 : World} (hb : Below W.heap.size W w1) : (∀ b o, b < W.heap.size → w1.cell? ⟨b, o, none⟩ = W.cell? ⟨b, o, none⟩) ∧ (∀ b o, b < W.heap.size → w1.frozen? ⟨b, o, none⟩ = W.frozen? ⟨b, o, none⟩) :=
  ⟨fun b o h => hb.cell (p := ⟨b, o, none⟩) h, fun b o h => hb.frozen (p := ⟨b, o, none⟩) h⟩
section
variable {H : Type} {enc : TypeId × Value → H} {P : Program}
theorem post_of_below {f : Func} {s : ChangeSpec} {apart fresh handsOn again : Bool} {W W' : World} {args : Array Value} {v : Value} {ds gs : List (DataW H)} {before pa pv : List MemPlace}
    (hW : DataW.Whole enc P f.params.toList s.vars apart W args.toList ds gs before)
    (hres : ∀ (b : Nat) (sp : Nat → Bool) (hd : Bool), DataW.TrodAll enc P W' b sp hd f.resultTypes.toList (v.resultList f.resultTypes.size) (s.fn H (ds ++ gs)).results [])
    (hargs : ∀ sp : Nat → Bool, (∀ p ∈ before, sp p.block = true) → DataW.TrodAll enc P W' 0 sp true f.params.toList args.toList (s.fn H (ds ++ gs)).args pa)
    (hvars : ∀ sp : Nat → Bool, (∀ p ∈ before, sp p.block = true) → DataW.TrodVars enc P W' sp s.vars (s.fn H (ds ++ gs)).vars pv)
    (hps : before = pa ++ pv) (hb : Below W.heap.size W W')
    (hok : ∀ (j : Nat) (t : TypeId) (r : Value), f.resultTypes[j]? = some t → (v.resultList f.resultTypes.size)[j]? = some r → Value.okWide P W' .any 0 t r) :
    s.post enc P f apart fresh handsOn again W args v W' := by
  have hlt : ∀ p ∈ before, p.block < W.heap.size := fun p hp => hW.lt p hp
  have hold : ∀ p ∈ before, (fun b => decide (b < W.heap.size)) p.block = true := fun p hp => by simpa using hlt p hp
  refine ⟨ds, gs, before, [], pa, pv, hW, hres _ _ _, hargs _ hold, hvars _ hold, World.keptBut_mono (fun p hp => ⟨hp, ?_⟩) (hb.frame (· ∈ before)), fun _ => ?_⟩
  · rw [hps, List.mem_append] at hp
    exact Or.inr hp
  · obtain ⟨_, _, _, _, _, hz, hn⟩ := hW
    refine ⟨hok, _, _, ([] ++ pa) ++ pv, ⟨[] ++ pa, pv, trodAll_append (hargs _ (fun _ _ => rfl)) (hres _ _ _), hvars _ (fun _ _ => rfl), rfl, ?_, ?_⟩, ?_⟩
    · intro b off hp
      have hin : MemPlace.cell b off ∈ before := by rw [hps]; simpa using hp
      rw [hb.frozen (hlt _ hin)]
      exact hz b off hin
    · intro ha
      have := hn ha
      rw [hps] at this
      simpa using this
    · intro p hp _
      rw [hps]
      simpa using hp

theorem laidOut' : laidOutB Tryz.prog = true := by kernel_rfl
/-- an argument reads again behind a call that leaves alone what lay below -/
theorem again1 {W W' : World} {t : TypeId} {v : Value} {d : DataW H} {p : List MemPlace} (hr : Tryz.prog.readableRec t = true) (hrow : decide (t < Tryz.prog.types.size) = true)
    (h : DataW.Trod enc Tryz.prog W 0 (fun _ => true) true t v d p) (hb : Below W.heap.size W W') (hlt : ∀ q ∈ p, q.block < W.heap.size) (sp : Nat → Bool) (hsp : ∀ q ∈ p, sp q.block = true) :
    DataW.Trod enc Tryz.prog W' 0 sp true t v d p := by
  obtain ⟨fuel, h⟩ := h
  exact ⟨fuel, DataW.trod_stays (kids_book laidOut' hr) (book_sized hr) (fun h => by cases h) ⟨of_decide_eq_true hrow, book_self t⟩ h (fun x hx => hb.same (hlt x hx)) hsp⟩
end
/-- the slice value v holds the integers zs of kind k -/
def IntsAt (k : IntKind) (w : World) (v : Value) (zs : List Int) : Prop :=
  (∃ a cap, v = .slice a 0 cap ∧ (a = none → cap = 0) ∧ zs = []) ∨
  (∃ b off cap, v = .slice (some ⟨b, off, none⟩) zs.length cap ∧ 0 < zs.length ∧ zs.length ≤ cap ∧ cap ≤ maxLen ∧ ∀ j, j < zs.length → w.cell? ⟨b, off + j, none⟩ = some (.int k (zs[j]?.getD 0)))
theorem cell_spot {w : World} {a : Addr} {v : Value} (h : w.cell? a = some v) : a = ⟨a.block, a.off, none⟩ := by
  obtain ⟨b, o, s⟩ := a
  unfold World.cell? at h
  cases s with
  | none => rfl
  | some x => simp at h; split at h <;> simp_all
theorem add_plain (b o i : Nat) : (⟨b, o, none⟩ : Addr).add i = ⟨b, o + i, none⟩ := by unfold Addr.add; split <;> simp_all
set_option maxRecDepth 100000 in
theorem ints_at {H : Type} {enc : TypeId × Value → H} {W : World} {base : Nat} {held : Bool} {t e : TypeId} {k : IntKind} {v : Value} {d : DataW H} {p : List MemPlace}
    (ht : Tryz.prog.underlying t = some (.slice e)) (he : Tryz.prog.underlying e = some (.int k)) (hc : Tryz.prog.cellsOf e = 1) (hv : Value.okWide Tryz.prog W .any base t v)
    (h : DataW.Trod enc Tryz.prog W 0 (fun _ => true) held t v d p) : ∃ zs, IntsAt k W v zs ∧ zs.length ≤ maxLen ∧ ∀ n ∈ zs, (Lit.int k n).wf = true := by
  obtain ⟨a0, len, cap, rfl⟩ := okWide_slice ht hv
  obtain ⟨fuel, hf⟩ := h
  rcases open_ints ht he hc hf with ⟨hcs, hx⟩ | ⟨a, len', cap', zs, hcs, _, hl, hm, hz, hx, hcell, hwz⟩
  · simp [Value.cells] at hcs
    obtain ⟨rfl, rfl, rfl⟩ := hcs
    exact ⟨[], .inl ⟨_, _, rfl, fun _ => rfl, rfl⟩, by simp, by simp⟩
  · simp [Value.cells] at hcs
    obtain ⟨rfl, rfl, rfl⟩ := hcs
    simp only [if_true] at hz
    rcases Nat.eq_zero_or_pos len with h0 | h0
    · subst h0
      exact ⟨[], .inl ⟨_, _, rfl, (fun h => by cases h), rfl⟩, by simp, by simp⟩
    · refine ⟨zs.take len, .inr ?_, by rw [List.length_take]; omega, fun n hn => hwz n (List.mem_of_mem_take hn)⟩
      have hc0 := cell_spot (hcell 0 (by omega))
      have hlen : (zs.take len).length = len := by rw [List.length_take]; omega
      obtain ⟨b, o, s⟩ := a
      obtain rfl : s = none := by
        simp only [Addr.add, if_true] at hc0
        exact congrArg Addr.spot hc0
      refine ⟨b, o, cap, by rw [hlen], by omega, by omega, hm, fun j hj => ?_⟩
      rw [hlen] at hj
      have := hcell j (by omega)
      rw [add_plain] at this
      rw [this, List.getElem?_take_of_lt hj, List.getD_eq_getElem?_getD]
theorem IntsAt.below {k : IntKind} {w w' : World} {v : Value} {zs : List Int} (h : IntsAt k w v zs) (hb : Below w.heap.size w w') : IntsAt k w' v zs := by
  rcases h with h | ⟨b, off, cap, h1, h2, h3, h4, h5⟩
  · exact .inl h
  · exact .inr ⟨b, off, cap, h1, h2, h3, h4, fun j hj => (hb.cell (p := ⟨b, off + j, none⟩) (World.block_lt_of_cell? _ _ (h5 j hj))).trans (h5 j hj)⟩
theorem IntsAt.form {k : IntKind} {w : World} {v : Value} {zs : List Int} (h : IntsAt k w v zs) : ∃ a cap, v = .slice a zs.length cap ∧ zs.length ≤ cap := by
  rcases h with ⟨a, cap, rfl, _, rfl⟩ | ⟨b, off, cap, rfl, h0, hl, hc, hx⟩
  · exact ⟨a, cap, rfl, Nat.zero_le _⟩
  · exact ⟨_, cap, rfl, hl⟩
theorem IntsAt.take {k : IntKind} {w : World} {a : Option Addr} {cap : Nat} {zs : List Int} (h : IntsAt k w (.slice a zs.length cap) zs) (m : Nat) (hm : m ≤ zs.length) : IntsAt k w (.slice a m cap) (zs.take m) := by
  have hlen : (zs.take m).length = m := by rw [List.length_take]; omega
  rcases h with ⟨a', cap', e, hn, rfl⟩ | ⟨b, off, cap', e, h0, hl, hc, hx⟩
  · cases e
    simp at hm; subst hm
    exact .inl ⟨_, _, rfl, hn, rfl⟩
  · cases e
    rcases Nat.eq_zero_or_pos m with h1 | h1
    · subst h1; exact .inl ⟨_, _, rfl, (fun h => by cases h), rfl⟩
    · refine .inr ⟨b, off, cap, by rw [hlen], by omega, by omega, hc, fun j hj => ?_⟩
      rw [hlen] at hj
      rw [hx j (by omega), List.getElem?_take_of_lt hj]
end Go.Proofs.YtafkndhnbnpahaaGreat
