/- Texts Base Obj Rpa Held Rpb Rpc Scope Rpd Inv Rgw of this claim, one behind the other. -/
import Derived.WalkKit
import Derived.ProofKit
import Derived.OpenShut
import Derived.Below
import Derived.ChangeSame
import Derived.Lib.Hide
import Derived.Handy
import Derived.ChangeBook
import Derived.ChangeStays
import Derived.ChangeSlices
import Derived.Test.YtpfkeohaaeiaaaaDoorProg
import Derived.Laws.Rows
import Derived.Laws.AppendOwn
import Derived.Deep.Quiet
import Derived.Deep.RegionHeld3
import Derived.Deep.RegionWith
import Derived.Deep.QuietTactic
import Derived.StillTailTactics
import Derived.BigQuiet
import Derived.Deep.OwnRows
import Derived.ControlIn
import Derived.Scope
import Derived.ScopeJumps
import Derived.RangeFuncNested
import Derived.RangeFuncBound
import Derived.RangeFuncCalls
import Derived.RangeFuncLeaves
import Derived.RangeFuncBox
import Derived.Shelf.Abstract
import Derived.Shelf.RegionOpen
import Derived.OwnWalkIn
import Derived.TacticsInMore
import Derived.LoopNIn
import Derived.LoopIn
import Derived.Laws.EntriesVeiled
import Derived.Stop.RegionWithIn
import Derived.Orders
/- Small lemmas on worlds that every text of this seat uses: what lies below a heap's size stays, and the row's last step from 'Below' alone. -/
namespace Go.Proofs.YtpfkeohaaeiaaaaDoor
open Go.RowKit Go.WideShapes Go.ChangeShapes
theorem btrans {a b c : World} (h : Below a.heap.size a b) (k : Below b.heap.size b c) : Below a.heap.size a c := h.trans (k.mono h.size)
theorem bcell {W w1 : World} (hb : Below W.heap.size W w1) : (∀ b o, b < W.heap.size → w1.cell? ⟨b, o, none⟩ = W.cell? ⟨b, o, none⟩) ∧ (∀ b o, b < W.heap.size → w1.frozen? ⟨b, o, none⟩ = W.frozen? ⟨b, o, none⟩) :=
  ⟨fun b o h => hb.cell (p := ⟨b, o, none⟩) h, fun b o h => hb.frozen (p := ⟨b, o, none⟩) h⟩
section
variable {H : Type} {enc : TypeId × Value → H} {P : Program}
theorem post_of_below {f : Func} {s : ChangeSpec} {apart fresh handsOn again : Bool} {W W' : World} {args : Array Value} {v : Value} {ds gs : List (DataW H)} {before pa pv : List MemPlace}
    (hW : DataW.Whole enc P f.params.toList s.vars apart W args.toList ds gs before)
    (hres : ∀ (b : Nat) (sp : Nat → Bool) (hd : Bool), DataW.TrodAll enc P W' b sp hd f.resultTypes.toList (v.resultList f.resultTypes.size) (s.fn H (ds ++ gs)).results [])
    (hargs : ∀ sp : Nat → Bool, (∀ p ∈ before, sp p.block = true) → DataW.TrodAll enc P W' 0 sp true f.params.toList args.toList (s.fn H (ds ++ gs)).args pa)
    (hvars : ∀ sp : Nat → Bool, (∀ p ∈ before, sp p.block = true) → DataW.TrodVars enc P W' sp s.vars (s.fn H (ds ++ gs)).vars pv)
    (hps : before = pa ++ pv) (hb : Below W.heap.size W W')
    (hok : ∀ (j : Nat) (t : TypeId) (r : Value), f.resultTypes[j]? = some t → (v.resultList f.resultTypes.size)[j]? = some r → Value.okWide P W' .any 0 t r) :
    s.post enc P f apart fresh handsOn again W args v W' := by
  have hlt : ∀ p ∈ before, p.block < W.heap.size := fun p hp => hW.lt p hp
  have hold : ∀ p ∈ before, (fun b => decide (b < W.heap.size)) p.block = true := fun p hp => by simpa using hlt p hp
  refine ⟨ds, gs, before, [], pa, pv, hW, hres _ _ _, hargs _ hold, hvars _ hold, World.keptBut_mono (fun p hp => ⟨hp, ?_⟩) (hb.frame (· ∈ before)), fun _ => ?_⟩
  · rw [hps, List.mem_append] at hp
    exact Or.inr hp
  · obtain ⟨_, _, _, _, _, hz, hn⟩ := hW
    refine ⟨hok, _, _, ([] ++ pa) ++ pv, ⟨[] ++ pa, pv, trodAll_append (hargs _ (fun _ _ => rfl)) (hres _ _ _), hvars _ (fun _ _ => rfl), rfl, ?_, ?_⟩, ?_⟩
    · intro b off hp
      have hin : MemPlace.cell b off ∈ before := by rw [hps]; simpa using hp
      rw [hb.frozen (hlt _ hin)]
      exact hz b off hin
    · intro ha
      have := hn ha
      rw [hps] at this
      simpa using this
    · intro p hp _
      rw [hps]
      simpa using hp

theorem laidOut' : laidOutB Tryd.prog = true := by kernel_rfl
/-- an argument reads again behind a call that leaves alone what lay below -/
theorem again1 {W W' : World} {t : TypeId} {v : Value} {d : DataW H} {p : List MemPlace} (hr : Tryd.prog.readableRec t = true) (hrow : decide (t < Tryd.prog.types.size) = true)
    (h : DataW.Trod enc Tryd.prog W 0 (fun _ => true) true t v d p) (hb : Below W.heap.size W W') (hlt : ∀ q ∈ p, q.block < W.heap.size) (sp : Nat → Bool) (hsp : ∀ q ∈ p, sp q.block = true) :
    DataW.Trod enc Tryd.prog W' 0 sp true t v d p := by
  obtain ⟨fuel, h⟩ := h
  exact ⟨fuel, DataW.trod_stays (kids_book laidOut' hr) (book_sized hr) (fun h => by cases h) ⟨of_decide_eq_true hrow, book_self t⟩ h (fun x hx => hb.same (hlt x hx)) hsp⟩
end
/-- the slice value v holds the integers zs of kind k -/
def IntsAt (k : IntKind) (w : World) (v : Value) (zs : List Int) : Prop :=
  (∃ a cap, v = .slice a 0 cap ∧ (a = none → cap = 0) ∧ zs = []) ∨
  (∃ b off cap, v = .slice (some ⟨b, off, none⟩) zs.length cap ∧ 0 < zs.length ∧ zs.length ≤ cap ∧ cap ≤ maxLen ∧ ∀ j, j < zs.length → w.cell? ⟨b, off + j, none⟩ = some (.int k (zs[j]?.getD 0)))
theorem cell_spot {w : World} {a : Addr} {v : Value} (h : w.cell? a = some v) : a = ⟨a.block, a.off, none⟩ := by
  obtain ⟨b, o, s⟩ := a
  unfold World.cell? at h
  cases s with
  | none => rfl
  | some x => simp at h; split at h <;> simp_all
theorem add_plain (b o i : Nat) : (⟨b, o, none⟩ : Addr).add i = ⟨b, o + i, none⟩ := by unfold Addr.add; split <;> simp_all
set_option maxRecDepth 100000 in
theorem ints_at {H : Type} {enc : TypeId × Value → H} {W : World} {base : Nat} {held : Bool} {t e : TypeId} {k : IntKind} {v : Value} {d : DataW H} {p : List MemPlace}
    (ht : Tryd.prog.underlying t = some (.slice e)) (he : Tryd.prog.underlying e = some (.int k)) (hc : Tryd.prog.cellsOf e = 1) (hv : Value.okWide Tryd.prog W .any base t v)
    (h : DataW.Trod enc Tryd.prog W 0 (fun _ => true) held t v d p) : ∃ zs, IntsAt k W v zs ∧ zs.length ≤ maxLen ∧ ∀ n ∈ zs, (Lit.int k n).wf = true := by
  obtain ⟨a0, len, cap, rfl⟩ := okWide_slice ht hv
  obtain ⟨fuel, hf⟩ := h
  rcases open_ints ht he hc hf with ⟨hcs, hx⟩ | ⟨a, len', cap', zs, hcs, _, hl, hm, hz, hx, hcell, hwz⟩
  · simp [Value.cells] at hcs
    obtain ⟨rfl, rfl, rfl⟩ := hcs
    exact ⟨[], .inl ⟨_, _, rfl, fun _ => rfl, rfl⟩, by simp, by simp⟩
  · simp [Value.cells] at hcs
    obtain ⟨rfl, rfl, rfl⟩ := hcs
    simp only [if_true] at hz
    rcases Nat.eq_zero_or_pos len with h0 | h0
    · subst h0
      exact ⟨[], .inl ⟨_, _, rfl, (fun h => by cases h), rfl⟩, by simp, by simp⟩
    · refine ⟨zs.take len, .inr ?_, by rw [List.length_take]; omega, fun n hn => hwz n (List.mem_of_mem_take hn)⟩
      have hc0 := cell_spot (hcell 0 (by omega))
      have hlen : (zs.take len).length = len := by rw [List.length_take]; omega
      obtain ⟨b, o, s⟩ := a
      obtain rfl : s = none := by
        simp only [Addr.add, if_true] at hc0
        exact congrArg Addr.spot hc0
      refine ⟨b, o, cap, by rw [hlen], by omega, by omega, hm, fun j hj => ?_⟩
      rw [hlen] at hj
      have := hcell j (by omega)
      rw [add_plain] at this
      rw [this, List.getElem?_take_of_lt hj, List.getD_eq_getElem?_getD]
theorem IntsAt.below {k : IntKind} {w w' : World} {v : Value} {zs : List Int} (h : IntsAt k w v zs) (hb : Below w.heap.size w w') : IntsAt k w' v zs := by
  rcases h with h | ⟨b, off, cap, h1, h2, h3, h4, h5⟩
  · exact .inl h
  · exact .inr ⟨b, off, cap, h1, h2, h3, h4, fun j hj => (hb.cell (p := ⟨b, off + j, none⟩) (World.block_lt_of_cell? _ _ (h5 j hj))).trans (h5 j hj)⟩
theorem IntsAt.form {k : IntKind} {w : World} {v : Value} {zs : List Int} (h : IntsAt k w v zs) : ∃ a cap, v = .slice a zs.length cap ∧ zs.length ≤ cap := by
  rcases h with ⟨a, cap, rfl, _, rfl⟩ | ⟨b, off, cap, rfl, h0, hl, hc, hx⟩
  · exact ⟨a, cap, rfl, Nat.zero_le _⟩
  · exact ⟨_, cap, rfl, hl⟩
theorem IntsAt.take {k : IntKind} {w : World} {a : Option Addr} {cap : Nat} {zs : List Int} (h : IntsAt k w (.slice a zs.length cap) zs) (m : Nat) (hm : m ≤ zs.length) : IntsAt k w (.slice a m cap) (zs.take m) := by
  have hlen : (zs.take m).length = m := by rw [List.length_take]; omega
  rcases h with ⟨a', cap', e, hn, rfl⟩ | ⟨b, off, cap', e, h0, hl, hc, hx⟩
  · cases e
    simp at hm; subst hm
    exact .inl ⟨_, _, rfl, hn, rfl⟩
  · cases e
    rcases Nat.eq_zero_or_pos m with h1 | h1
    · subst h1; exact .inl ⟨_, _, rfl, (fun h => by cases h), rfl⟩
    · refine .inr ⟨b, off, cap, by rw [hlen], by omega, by omega, hc, fun j hj => ?_⟩
      rw [hlen] at hj
      rw [hx j (by omega), List.getElem?_take_of_lt hj]
end Go.Proofs.YtpfkeohaaeiaaaaDoor
/- Blocks known whole: what a store, a new block and a callee leave of them. -/
namespace Go.Proofs.YtpfkeohaaeiaaaaDoor
open Go.RowKit
theorem grown_refl (w : World) (r : Option Nat) : w.grownBy w r := ⟨rfl, rfl, rfl, Nat.le_refl _, fun _ _ _ => rfl⟩
theorem grown_trans {a b c : World} {r : Option Nat} (h : a.grownBy b r) (k : b.grownBy c r) : a.grownBy c r :=
  ⟨k.os.trans h.os, k.tape.trans h.tape, k.output.trans h.output, Nat.le_trans h.size k.size, fun i hi hr => (k.block i (Nat.lt_of_lt_of_le hi h.size) hr).trans (h.block i hi hr)⟩
theorem grown_set {a w : World} {b i : Nat} (h : a.grownBy w (some b)) (v : Value) : a.grownBy (w.setCell ⟨b, i, none⟩ v) (some b) :=
  ⟨h.os, h.tape, h.output, by simpa using h.size, fun k hk hr => (heap_setCell_other w _ k v (fun e => hr (by rw [e]))).trans (h.block k hk hr)⟩
theorem grown_drew {a w : World} {r : Option Nat} (h : a.grownBy w r) : a.grownBy w.drew r := ⟨h.os, h.tape, h.output, h.size, h.block⟩
theorem grown_alloc {a w : World} {r : Option Nat} (h : a.grownBy w r) (o : Obj) : a.grownBy (w.alloc o) r :=
  ⟨h.os, h.tape, h.output, by simp; exact Nat.le_succ_of_le h.size, fun k hk hr => (Below.heap_alloc w o k (Nat.lt_of_lt_of_le hk h.size)).trans (h.block k hk hr)⟩
theorem grown_below {w w' : World} {r : Option Nat} (h : Below w.heap.size w w') : w.grownBy w' r := ⟨h.os, h.tape, h.output, h.size, fun k hk _ => h.block k hk⟩
/-- a block of its own: what was below stays -/
theorem below_grown {a w w' : World} {b : Nat} (hB : Below a.heap.size a w) (h : w.grownBy w' (some b)) (hb : a.heap.size ≤ b) : Below a.heap.size a w' :=
  hB.grown h hB.size (fun k e => by cases e; exact hb)
theorem heap_grown {w w' : World} {b k : Nat} {o : Obj} (h : w.grownBy w' (some b)) (hk : w.heap[k]? = some o) (hne : k ≠ b) : w'.heap[k]? = some o :=
  (h.block k (Array.getElem?_eq_some_iff.1 hk).1 (fun e => hne (by cases e; rfl))).trans hk
theorem heap_below {w w' : World} {k : Nat} {o : Obj} (h : Below w.heap.size w w') (hk : w.heap[k]? = some o) : w'.heap[k]? = some o :=
  (h.block k (Array.getElem?_eq_some_iff.1 hk).1).trans hk
theorem cell_whole {w : World} {b : Nat} {cs : Array Value} {T : TypeId} (h : w.heap[b]? = some (.cells cs T (0, 0))) (j : Nat) : w.cell? ⟨b, j, none⟩ = cs[j]? := cell_of_row w b j cs T (0, 0) h
theorem frozen_whole {w : World} {b : Nat} {cs : Array Value} {T : TypeId} (h : w.heap[b]? = some (.cells cs T (0, 0))) (j : Nat) : w.frozen? ⟨b, j, none⟩ = false := by
  simp [World.frozen?, h]
theorem heap_lt {w : World} {b : Nat} {o : Obj} (h : w.heap[b]? = some o) : b < w.heap.size := (Array.getElem?_eq_some_iff.1 h).1
theorem heap_set {w : World} {b i : Nat} {cs : Array Value} {T : TypeId} (v : Value) (h : w.heap[b]? = some (.cells cs T (0, 0))) : (w.setCell ⟨b, i, none⟩ v).heap[b]? = some (.cells (cs.setIfInBounds i v) T (0, 0)) :=
  heap_setCell_same w b i cs T v h
/-- block b has come to hold cs; nothing else that lay in w has turned -/
def Blk (b : Nat) (cs : Array Value) (T : TypeId) (w w' : World) : Prop := w'.heap[b]? = some (.cells cs T (0, 0)) ∧ w.grownBy w' (some b)
theorem Blk.start {b : Nat} {cs : Array Value} {T : TypeId} {w : World} (h : w.heap[b]? = some (.cells cs T (0, 0))) : Blk b cs T w w := ⟨h, grown_refl _ _⟩
theorem Blk.set {b : Nat} {cs : Array Value} {T : TypeId} {w w' : World} (h : Blk b cs T w w') (i : Nat) (v : Value) : Blk b (cs.setIfInBounds i v) T w (w'.setCell ⟨b, i, none⟩ v) := ⟨heap_set v h.1, grown_set h.2 v⟩
theorem Blk.drew {b : Nat} {cs : Array Value} {T : TypeId} {w w' : World} (h : Blk b cs T w w') : Blk b cs T w w'.drew := ⟨h.1, grown_drew h.2⟩
theorem Blk.alloc {b : Nat} {cs : Array Value} {T : TypeId} {w w' : World} (h : Blk b cs T w w') (o : Obj) : Blk b cs T w (w'.alloc o) := ⟨(Below.heap_alloc w' o b (heap_lt h.1)).trans h.1, grown_alloc h.2 o⟩
theorem Blk.trans {b : Nat} {cs cs' : Array Value} {T : TypeId} {w w' w'' : World} (h : Blk b cs T w w') (k : Blk b cs' T w' w'') : Blk b cs' T w w'' := ⟨k.1, grown_trans h.2 k.2⟩
theorem Blk.below {b : Nat} {cs : Array Value} {T : TypeId} {w w' w'' : World} (h : Blk b cs T w w') (k : Below w'.heap.size w' w'') : Blk b cs T w w'' := ⟨heap_below k h.1, grown_trans h.2 (grown_below k)⟩
theorem Blk.cast {b : Nat} {cs cs' : Array Value} {T : TypeId} {w w' : World} (h : Blk b cs T w w') (e : cs = cs') : Blk b cs' T w w' := e ▸ h
theorem Blk.drewN {b : Nat} {cs : Array Value} {T : TypeId} {w w' : World} (h : Blk b cs T w w') (n : Nat) : Blk b cs T w (w'.drewN n) := ⟨h.1, ⟨h.2.os, h.2.tape, h.2.output, h.2.size, h.2.block⟩⟩
end Go.Proofs.YtpfkeohaaeiaaaaDoor
/- Reassembly: plain laws on its window. -/
namespace Go.Proofs.YtpfkeohaaeiaaaaDoor.rea
abbrev gd (l : List Int) (j : Nat) : Int := l[j]?.getD 0
theorem ext_gd {l m : List Int} (hl : l.length = m.length) (h : ∀ j, j < l.length → gd l j = gd m j) : l = m := by
  apply List.ext_getElem hl
  intro j h1 h2
  have := h j h1
  simpa [gd, h1, h2] using this
theorem gd_set (l : List Int) (k j : Nat) (v : Int) (h : k < l.length) : gd (l.set k v) j = if j = k then v else gd l j := by
  unfold gd
  rw [List.getElem?_set]
  by_cases e : k = j
  · subst e; simp [h]
  · rw [if_neg e, if_neg (fun h => e h.symm)]
/-! a reassembly buffer as plain data: the window's bytes and which of them are there -/
def hg (l : List Bool) (j : Nat) : Bool := l[j]?.getD false
theorem hg_set (l : List Bool) (k j : Nat) (v : Bool) (h : k < l.length) : hg (l.set k v) j = if j = k then v else hg l j := by
  unfold hg
  rw [List.getElem?_set]
  by_cases e : k = j
  · subst e; simp [h]
  · rw [if_neg e, if_neg (fun h => e h.symm)]
theorem ext_hg {l m : List Bool} (hl : l.length = m.length) (h : ∀ j, j < l.length → hg l j = hg m j) : l = m := by
  apply List.ext_getElem hl
  intro j h1 h2
  have := h j h1
  simpa [hg, h1, h2] using this
/-- the window begins at a; the first i bytes of the piece s at off are put into it -/
def putB (a off : Int) (s : List Int) (i : Nat) (bs : List Int) : List Int := (List.range bs.length).map fun (k : Nat) => if off ≤ a + (k : Int) ∧ a + (k : Int) < off + (i : Int) then gd s (a + (k : Int) - off).toNat else gd bs k
def putH (a off : Int) (i : Nat) (hs : List Bool) : List Bool := (List.range hs.length).map fun (k : Nat) => decide (off ≤ a + (k : Int) ∧ a + (k : Int) < off + (i : Int)) || hg hs k
theorem putB_length (a off : Int) (s : List Int) (i : Nat) (bs : List Int) : (putB a off s i bs).length = bs.length := by simp [putB]
theorem putH_length (a off : Int) (i : Nat) (hs : List Bool) : (putH a off i hs).length = hs.length := by simp [putH]
theorem gd_putB (a off : Int) (s : List Int) (i : Nat) (bs : List Int) (k : Nat) (h : k < bs.length) : gd (putB a off s i bs) k = if off ≤ a + (k : Int) ∧ a + (k : Int) < off + (i : Int) then gd s (a + (k : Int) - off).toNat else gd bs k := by simp [gd, putB, h]
theorem hg_putH (a off : Int) (i : Nat) (hs : List Bool) (k : Nat) (h : k < hs.length) : hg (putH a off i hs) k = (decide (off ≤ a + (k : Int) ∧ a + (k : Int) < off + (i : Int)) || hg hs k) := by simp [hg, putH, h]
/-- the first index of a piece that lies in the window, and behind the last -/
def ovA (a off : Int) : Nat := (a - off).toNat
def ovB (a off : Int) (w n : Nat) : Nat := max (ovA a off) (min n (a + (w : Int) - off).toNat)
theorem putB_start (a off : Int) (s : List Int) (bs : List Int) : putB a off s (ovA a off) bs = bs := by
  refine ext_gd (putB_length _ _ _ _ _) (fun j hj => ?_)
  rw [putB_length] at hj
  rw [gd_putB _ _ _ _ _ _ hj, if_neg]
  unfold ovA; omega
theorem putH_start (a off : Int) (hs : List Bool) : putH a off (ovA a off) hs = hs := by
  refine ext_hg (putH_length _ _ _ _) (fun j hj => ?_)
  rw [putH_length] at hj
  rw [hg_putH _ _ _ _ _ hj, decide_eq_false, Bool.false_or]
  unfold ovA; omega
theorem putB_succ (a off : Int) (s : List Int) (i : Nat) (bs : List Int) (k : Nat) (h : off + (i : Int) = a + (k : Int)) (hk : k < bs.length) : putB a off s (i + 1) bs = (putB a off s i bs).set k (gd s i) := by
  refine ext_gd (by simp [putB_length]) (fun j hj => ?_)
  rw [putB_length] at hj
  rw [gd_set _ _ _ _ (by rw [putB_length]; exact hk), gd_putB _ _ _ _ _ _ hj, gd_putB _ _ _ _ _ _ hj]
  by_cases e : j = k
  · subst e
    rw [if_pos rfl, if_pos (by omega)]
    congr 1; omega
  · rw [if_neg e]
    by_cases c : off ≤ a + (j : Int) ∧ a + (j : Int) < off + (i : Int)
    · rw [if_pos c, if_pos (by omega)]
    · rw [if_neg c, if_neg (by omega)]
theorem putH_succ (a off : Int) (i : Nat) (hs : List Bool) (k : Nat) (h : off + (i : Int) = a + (k : Int)) (hk : k < hs.length) : putH a off (i + 1) hs = (putH a off i hs).set k true := by
  refine ext_hg (by simp [putH_length]) (fun j hj => ?_)
  rw [putH_length] at hj
  rw [hg_set _ _ _ _ (by rw [putH_length]; exact hk), hg_putH _ _ _ _ _ hj, hg_putH _ _ _ _ _ hj]
  by_cases e : j = k
  · subst e
    rw [if_pos rfl, decide_eq_true (by omega), Bool.true_or]
  · rw [if_neg e]
    congr 1
    apply decide_eq_decide.2; omega
theorem putB_end (a off : Int) (s : List Int) (w n : Nat) (bs : List Int) (hw : bs.length = w) : putB a off s (ovB a off w n) bs = putB a off s n bs := by
  refine ext_gd (by simp [putB_length]) (fun j hj => ?_)
  rw [putB_length] at hj
  rw [gd_putB _ _ _ _ _ _ hj, gd_putB _ _ _ _ _ _ hj]
  have : (off ≤ a + (j : Int) ∧ a + (j : Int) < off + (ovB a off w n : Nat)) ↔ (off ≤ a + (j : Int) ∧ a + (j : Int) < off + (n : Int)) := by unfold ovB ovA; omega
  simp only [this]
theorem putH_end (a off : Int) (w n : Nat) (hs : List Bool) (hw : hs.length = w) : putH a off (ovB a off w n) hs = putH a off n hs := by
  refine ext_hg (by simp [putH_length]) (fun j hj => ?_)
  rw [putH_length] at hj
  rw [hg_putH _ _ _ _ _ hj, hg_putH _ _ _ _ _ hj]
  have : (off ≤ a + (j : Int) ∧ a + (j : Int) < off + (ovB a off w n : Nat)) ↔ (off ≤ a + (j : Int) ∧ a + (j : Int) < off + (n : Int)) := by unfold ovB ovA; omega
  simp only [this]
/-- byte i of the piece (at k of the window) agrees -/
def agAt (bs : List Int) (hs : List Bool) (s : List Int) (i k : Nat) : Bool := !hg hs k || decide (gd bs k = gd s i)
/-- the indexes with their places in the window -/
def ovl (a off : Int) (w n : Nat) : List (Nat × Nat) := (List.range (ovB a off w n - ovA a off)).map fun j => (ovA a off + j, (off + (ovA a off + j : Nat) - a).toNat)
def agF (a : Int) (bs : List Int) (hs : List Bool) (off : Int) (s : List Int) : Bool := (ovl a off bs.length s.length).all fun x => agAt bs hs s x.1 x.2
theorem ovl_mem {a off : Int} {w n : Nat} {x : Nat × Nat} (h : x ∈ ovl a off w n) : x.1 < n ∧ x.2 < w ∧ off + (x.1 : Int) = a + (x.2 : Int) := by
  simp only [ovl, List.mem_map, List.mem_range] at h
  obtain ⟨j, hj, rfl⟩ := h
  simp only
  unfold ovB at hj
  unfold ovA at *
  omega
theorem ovl_of {a off : Int} {w n i k : Nat} (hi : i < n) (hk : k < w) (h : off + (i : Int) = a + (k : Int)) : (i, k) ∈ ovl a off w n := by
  simp only [ovl, List.mem_map, List.mem_range]
  refine ⟨i - ovA a off, ?_, ?_⟩
  · unfold ovB; unfold ovA; omega
  · simp only [Prod.mk.injEq]; unfold ovA; omega
theorem agF_true {a off : Int} {bs : List Int} {hs : List Bool} {s : List Int} (h : ∀ i k, i < s.length → k < bs.length → off + (i : Int) = a + (k : Int) → hg hs k = true → gd bs k = gd s i) : agF a bs hs off s = true := by
  unfold agF
  rw [List.all_eq_true]
  intro x hx
  obtain ⟨h1, h2, h3⟩ := ovl_mem hx
  unfold agAt
  cases e : hg hs x.2
  · rfl
  · rw [h _ _ h1 h2 h3 e]; simp
/-- how many bytes are ready -/
def readyF : List Bool → Nat
  | [] => 0
  | false :: _ => 0
  | true :: l => readyF l + 1
theorem readyF_le (l : List Bool) : readyF l ≤ l.length := by
  induction l with
  | nil => exact Nat.le_refl _
  | cons b l ih => cases b <;> simp [readyF]; exact ih
theorem readyF_lt (l : List Bool) : ∀ k, k < readyF l → hg l k = true := by
  induction l with
  | nil => intro k h; simp [readyF] at h
  | cons b l ih =>
    cases b
    · intro k h; simp [readyF] at h
    · intro k h
      cases k with
      | zero => rfl
      | succ k => simp only [readyF] at h; have := ih k (by omega); simpa [hg] using this
theorem readyF_at (l : List Bool) : readyF l < l.length → hg l (readyF l) = false := by
  induction l with
  | nil => intro h; simp at h
  | cons b l ih =>
    cases b
    · intro _; rfl
    · intro h
      simp only [readyF, List.length_cons] at h ⊢
      have := ih (by omega)
      simpa [hg] using this
theorem readyF_is {l : List Bool} {n : Nat} (hn : n ≤ l.length) (h : ∀ k, k < n → hg l k = true) (hz : n < l.length → hg l n = false) : readyF l = n := by
  have h1 := readyF_le l
  rcases Nat.lt_trichotomy (readyF l) n with e | e | e
  · have := readyF_at l (by omega)
    rw [h _ e] at this; cases this
  · exact e
  · have := readyF_lt l n e
    rw [hz (by omega)] at this; cases this
/-- n bytes taken from the front -/
def takeB (n : Nat) (bs : List Int) : List Int := bs.drop n ++ List.replicate (min n bs.length) 0
def takeH (n : Nat) (hs : List Bool) : List Bool := hs.drop n ++ List.replicate (min n hs.length) false
theorem takeB_length (n : Nat) (bs : List Int) : (takeB n bs).length = bs.length := by simp [takeB]; omega
theorem takeH_length (n : Nat) (hs : List Bool) : (takeH n hs).length = hs.length := by simp [takeH]; omega
theorem hg_takeH (n k : Nat) (hs : List Bool) (h : n ≤ hs.length) : hg (takeH n hs) k = if n + k < hs.length then hg hs (n + k) else false := by
  unfold takeH hg
  by_cases e : n + k < hs.length
  · rw [if_pos e, List.getElem?_append_left (by simp; omega), List.getElem?_drop]
  · rw [if_neg e, List.getElem?_append_right (by simp; omega)]
    by_cases e2 : k - (hs.drop n).length < min n hs.length
    · rw [List.getElem?_replicate, if_pos e2]; rfl
    · rw [List.getElem?_replicate, if_neg e2]; rfl
theorem gd_takeB (n k : Nat) (bs : List Int) (h : n ≤ bs.length) : gd (takeB n bs) k = if n + k < bs.length then gd bs (n + k) else 0 := by
  unfold takeB gd
  by_cases e : n + k < bs.length
  · rw [if_pos e, List.getElem?_append_left (by simp; omega), List.getElem?_drop]
  · rw [if_neg e, List.getElem?_append_right (by simp; omega)]
    by_cases e2 : k - (bs.drop n).length < min n bs.length
    · rw [List.getElem?_replicate, if_pos e2]; rfl
    · rw [List.getElem?_replicate, if_neg e2]; rfl
end Go.Proofs.YtpfkeohaaeiaaaaDoor.rea
/- For a region that draws its order, loads cells, calls what only makes memory, and stores into a block R of the call's own: what holds in every order (for go_region_held3). -/
namespace Go.Proofs.YtpfkeohaaeiaaaaDoor
open Go.RowKit
/-- what a cell holds: a name for it, so that a fact on it stands before and behind a store -/
def cur (w : World) (p : Addr) : Value := (w.cell? p).getD undef
theorem cur_of {w : World} {p : Addr} {v : Value} (h : w.cell? p = some v) : w.cell? p = some (cur w p) := by unfold cur; rw [h]; rfl
theorem cur_set {w : World} {a p : Addr} {u v : Value} (h : w.cell? p = some u) : (w.setCell a v).cell? p = some (cur (w.setCell a v) p) := by
  by_cases e : a = p
  · subst e; exact cur_of (World.cell?_setCell_same _ _ _ h)
  · exact cur_of ((World.cell?_setCell_other _ _ _ _ e).trans h)
/-- w' is W, but for block R and what is new -/
structure Held (W : World) (R : Nat) (w' : World) : Prop where
  size : W.heap.size ≤ w'.heap.size
  cellH : ∀ p : Addr, p.block < W.heap.size → p.block ≠ R → w'.cell? p = W.cell? p
  frozH : ∀ p : Addr, p.block < W.heap.size → w'.frozen? p = W.frozen? p
  curH : ∀ p : Addr, p.block < W.heap.size → (∃ v, W.cell? p = some v) → ∃ v, w'.cell? p = some v
theorem Held.refl (W : World) (R : Nat) : Held W R W := ⟨Nat.le_refl _, fun _ _ _ => rfl, fun _ _ => rfl, fun _ _ h => h⟩
theorem Held.drew {W w : World} {R : Nat} (h : Held W R w) : Held W R w.drew := ⟨h.size, h.cellH, h.frozH, h.curH⟩
theorem Held.drewN {W w : World} {R : Nat} (h : Held W R w) (n : Nat) : Held W R (w.drewN n) := ⟨h.size, h.cellH, h.frozH, h.curH⟩
theorem Held.start (W : World) (R : Nat) : Held W R W.drew := (Held.refl W R).drew
theorem Held.below {W w w1 : World} {R : Nat} (h : Held W R w) (hb : Below w.heap.size w w1) : Held W R w1 :=
  ⟨Nat.le_trans h.size hb.size, fun p hp hn => (hb.cell (p := p) (Nat.lt_of_lt_of_le hp h.size)).trans (h.cellH p hp hn), fun p hp => (hb.frozen (p := p) (Nat.lt_of_lt_of_le hp h.size)).trans (h.frozH p hp),
   fun p hp hv => by rw [hb.cell (p := p) (Nat.lt_of_lt_of_le hp h.size)]; exact h.curH p hp hv⟩
theorem Held.alloc {W w : World} {R : Nat} (h : Held W R w) (o : Obj) : Held W R (w.alloc o) := h.below ((Below.refl _ _).alloc (Nat.le_refl _) _)
theorem Held.set {W w : World} {R : Nat} (h : Held W R w) (i : Nat) (v : Value) : Held W R (w.setCell ⟨R, i, none⟩ v) :=
  ⟨by simpa using h.size, fun p hp hn => (World.cell?_setCell_far _ _ _ _ (Ne.symm hn)).trans (h.cellH p hp hn), fun p hp => (World.frozen?_setCell ..).trans (h.frozH p hp),
   fun p hp hv => by obtain ⟨u, hu⟩ := h.curH p hp hv; exact ⟨_, cur_set hu⟩⟩
theorem Held.cell {W w' : World} {R : Nat} (h : Held W R w') {b o : Nat} {v : Value} (hc : W.cell? ⟨b, o, none⟩ = some v) (hR : b ≠ R) : w'.cell? ⟨b, o, none⟩ = some v :=
  (h.cellH ⟨b, o, none⟩ (World.block_lt_of_cell? _ _ hc) hR).trans hc
theorem Held.froz {W w' : World} {R : Nat} (h : Held W R w') {b o : Nat} (hf : W.frozen? ⟨b, o, none⟩ = false) (hl : b < W.heap.size) : w'.frozen? ⟨b, o, none⟩ = false := (h.frozH ⟨b, o, none⟩ hl).trans hf
theorem Held.cur {W w' : World} {R : Nat} (h : Held W R w') {b o : Nat} {v : Value} (hc : W.cell? ⟨b, o, none⟩ = some v) : w'.cell? ⟨b, o, none⟩ = some (cur w' ⟨b, o, none⟩) := by
  obtain ⟨u, hu⟩ := h.curH ⟨b, o, none⟩ (World.block_lt_of_cell? _ _ hc) ⟨v, hc⟩
  exact cur_of hu
theorem box1 (w : World) (o0 : Obj) : (w.alloc o0).heap[w.heap.size]? = some o0 ∧ Below w.heap.size w (w.alloc o0) ∧ (w.alloc o0).heap.size = w.heap.size + 1 :=
  ⟨heap_alloc_new w o0, (Below.refl _ w).alloc (Nat.le_refl _) _, World.size_alloc _ _⟩
theorem box2 (w : World) (o0 o1 : Obj) : ((w.alloc o0).alloc o1).heap[w.heap.size]? = some o0 ∧ ((w.alloc o0).alloc o1).heap[w.heap.size + 1]? = some o1 ∧
    Below w.heap.size w ((w.alloc o0).alloc o1) ∧ ((w.alloc o0).alloc o1).heap.size = w.heap.size + 1 + 1 := by
  obtain ⟨a, b, c⟩ := box1 w o0
  obtain ⟨d, e, f⟩ := box1 (w.alloc o0) o1
  rw [c] at d f
  exact ⟨(e.block _ (by omega)).trans a, d, b.trans (e.mono (by omega)), f⟩
theorem box3 (w : World) (o0 o1 o2 : Obj) : (((w.alloc o0).alloc o1).alloc o2).heap[w.heap.size]? = some o0 ∧ (((w.alloc o0).alloc o1).alloc o2).heap[w.heap.size + 1]? = some o1 ∧ (((w.alloc o0).alloc o1).alloc o2).heap[w.heap.size + 1 + 1]? = some o2 ∧
    Below w.heap.size w (((w.alloc o0).alloc o1).alloc o2) ∧ (((w.alloc o0).alloc o1).alloc o2).heap.size = w.heap.size + 1 + 1 + 1 := by
  obtain ⟨a, a', b, c⟩ := box2 w o0 o1
  obtain ⟨d, e, f⟩ := box1 ((w.alloc o0).alloc o1) o2
  rw [c] at d f
  exact ⟨(e.block _ (by omega)).trans a, (e.block _ (by omega)).trans a', d, b.trans (e.mono (by omega)), f⟩
/-- the cells of a block that is known whole -/
theorem at_whole {w : World} {b : Nat} {cs : Array Value} {T : TypeId} (h : w.heap[b]? = some (.cells cs T (0, 0))) (j : Nat) {v : Value} (hv : cs[j]? = some v) : w.cell? ⟨b, j, none⟩ = some v := (cell_whole h j).trans hv
theorem belowN {n : Nat} {w w1 : World} (h : Below n w w1) (k : Nat) : Below n w (w1.drewN k) := ⟨h.os, h.tape, h.output, h.size, h.block⟩
end Go.Proofs.YtpfkeohaaeiaaaaDoor
/- Reassembly: a buffer as plain data, where it lies; New, end, ready. -/
namespace Go.Proofs.YtpfkeohaaeiaaaaDoor.rea
open Go.RowKit
structure Rb where
  at_ : Nat
  bs : List Int
  hs : List Bool
  hi : Int
  fin : Int
  kn : Bool
def Rb.cells (R : Rb) (g1 g2 : Nat) : Array Value := #[.int .i64 R.at_, .slice (some ⟨g1, 0, none⟩) R.bs.length R.bs.length, .slice (some ⟨g2, 0, none⟩) R.bs.length R.bs.length, .int .i64 R.hi, .int .i64 R.fin, .bool R.kn]
def u8s (l : List Int) : Obj := .cells (l.map (Value.int .u8)).toArray 5
def bls (l : List Bool) : Obj := .cells (l.map Value.bool).toArray 4
/-- a buffer lies at block b, its rows at g1 and g2 -/
structure RbAt (w : World) (b g1 g2 : Nat) (R : Rb) : Prop where
  ob : w.heap[b]? = some (.cells (R.cells g1 g2) 68 (0, 0))
  o1 : w.heap[g1]? = some (u8s R.bs)
  o2 : w.heap[g2]? = some (bls R.hs)
  hl : R.hs.length = R.bs.length
  sm : R.bs.length ≤ 8192
/-- what a call leaves: only blocks b, g1, g2 have turned -/
structure Tr (b g1 g2 : Nat) (w w' : World) : Prop where
  os : w'.os = w.os
  tape : w'.tape = w.tape
  output : w'.output = w.output
  size : w.heap.size ≤ w'.heap.size
  block : ∀ k, k < w.heap.size → k ≠ b → k ≠ g1 → k ≠ g2 → w'.heap[k]? = w.heap[k]?
theorem Tr.refl (b g1 g2 : Nat) (w : World) : Tr b g1 g2 w w := ⟨rfl, rfl, rfl, Nat.le_refl _, fun _ _ _ _ _ => rfl⟩
theorem Tr.trans {b g1 g2 : Nat} {x y z : World} (h : Tr b g1 g2 x y) (k : Tr b g1 g2 y z) : Tr b g1 g2 x z :=
  ⟨k.os.trans h.os, k.tape.trans h.tape, k.output.trans h.output, Nat.le_trans h.size k.size, fun j hj h1 h2 h3 => (k.block j (Nat.lt_of_lt_of_le hj h.size) h1 h2 h3).trans (h.block j hj h1 h2 h3)⟩
theorem Tr.below {b g1 g2 : Nat} {x y z : World} (h : Tr b g1 g2 x y) (k : Below y.heap.size y z) : Tr b g1 g2 x z := h.trans ⟨k.os, k.tape, k.output, k.size, fun j hj _ _ _ => k.block j hj⟩
theorem Tr.set {b g1 g2 : Nat} {x y : World} (h : Tr b g1 g2 x y) {k i : Nat} (hk : k = b ∨ k = g1 ∨ k = g2) (v : Value) : Tr b g1 g2 x (y.setCell ⟨k, i, none⟩ v) :=
  ⟨h.os, h.tape, h.output, by simpa using h.size, fun j hj h1 h2 h3 => (heap_setCell_other y _ j v (fun e => by have e : k = j := (by first | exact e | exact e.symm); omega)).trans (h.block j hj h1 h2 h3)⟩
section
variable {w w' : World} {b g1 g2 : Nat} {R : Rb}
theorem RbAt.below (h : RbAt w b g1 g2 R) (hb : Below w.heap.size w w') : RbAt w' b g1 g2 R := ⟨heap_below hb h.ob, heap_below hb h.o1, heap_below hb h.o2, h.hl, h.sm⟩
theorem RbAt.ne (h : RbAt w b g1 g2 R) : b ≠ g1 ∧ b ≠ g2 ∧ g1 ≠ g2 := by
  have h1 := h.ob; have h2 := h.o1; have h3 := h.o2
  refine ⟨fun e => ?_, fun e => ?_, fun e => ?_⟩ <;> subst e
  · rw [h1] at h2; simp [u8s] at h2
  · rw [h1] at h3; simp [bls] at h3
  · rw [h2] at h3; simp [u8s, bls] at h3
/-- the cells of its struct -/
theorem RbAt.cells (h : RbAt w b g1 g2 R) : w.cell? ⟨b, 0, none⟩ = some (.int .i64 R.at_) ∧ w.cell? ⟨b, 1, none⟩ = some (.slice (some ⟨g1, 0, none⟩) R.bs.length R.bs.length) ∧ w.cell? ⟨b, 2, none⟩ = some (.slice (some ⟨g2, 0, none⟩) R.bs.length R.bs.length) ∧
    w.cell? ⟨b, 3, none⟩ = some (.int .i64 R.hi) ∧ w.cell? ⟨b, 4, none⟩ = some (.int .i64 R.fin) ∧ w.cell? ⟨b, 5, none⟩ = some (.bool R.kn) :=
  ⟨at_whole h.ob 0 rfl, at_whole h.ob 1 rfl, at_whole h.ob 2 rfl, at_whole h.ob 3 rfl, at_whole h.ob 4 rfl, at_whole h.ob 5 rfl⟩
theorem RbAt.byte (h : RbAt w b g1 g2 R) (k : Nat) (hk : k < R.bs.length) : w.cell? ⟨g1, k, none⟩ = some (.int .u8 (gd R.bs k)) := by
  refine at_whole h.o1 k ?_
  simp [gd, hk]
theorem RbAt.flag (h : RbAt w b g1 g2 R) (k : Nat) (hk : k < R.bs.length) : w.cell? ⟨g2, k, none⟩ = some (.bool (hg R.hs k)) := by
  have := h.hl
  refine at_whole h.o2 k ?_
  simp [hg, show k < R.hs.length by omega]
end
set_option maxRecDepth 100000 in
theorem end_any (off : Nat) (s : ByteArray) (fin : Bool) (w : World) (h : (off : Int) + s.size ≤ 9223372036854775807) : Calls Tryd.prog 43 #[.agg #[.int .i64 off, .string s, .bool fin]] w fun e w' => e = .returned (.int .i64 ((off : Int) + s.size)) ∧ w' = w.alloc (.cells #[.int .i64 off, .string s, .bool fin] 83) := by
  have hw : IntKind.i64.wrap ((off : Int) + s.size) = (off : Int) + s.size := IntWalk.i64_in _ (by omega)
  go_enter Tryd.func43, Tryd.ntmps43
  go_wp2
  go_ret
  exact ⟨rfl, rfl⟩
set_option maxRecDepth 100000 in
set_option maxHeartbeats 2000000 in
theorem ready_any (b g1 g2 : Nat) (R : Rb) (w : World) (h : RbAt w b g1 g2 R) : Calls Tryd.prog 35 #[.pointer (some ⟨b, 0, none⟩)] w fun e w' => e = .returned (.int .i64 (readyF R.hs)) ∧ w = w' := by
  have h2 := h.cells.2.2.1
  have HH := Lib.hid h
  have hl := h.hl
  have hsm := h.sm
  have hle := readyF_le R.hs
  have HL := Lib.hid (readyF_lt R.hs)
  have HA := Lib.hid (readyF_at R.hs)
  have HF := Lib.hid (fun k hk => h.flag k hk)
  clear h
  generalize readyF R.hs = m at *
  generalize R.bs.length = n at *
  go_enter Tryd.func35, Tryd.ntmps35
  go_wp2
  go_loop [10] (fun i => ∃ j : Nat, j ≤ m ∧ i = .int .i64 j) (fun i => m + 1 - (intOf i).toNat)
  case atStart => exact ⟨0, Nat.zero_le _, rfl⟩
  case round =>
    obtain ⟨j, hj, rfl⟩ := hrel
    by_cases hlt : j < n
    · have c0 := HF.out j hlt
      have d0 : (j : Int) < (n : Int) := by omega
      have d1 : (0 : Int) ≤ (j : Int) := by omega
      by_cases hjm : j < m
      · rw [HL.out j hjm] at c0
        go_wp2
        go_round
        case rel => exact ⟨j + 1, by omega, by go_num⟩
        case measure => simp [intOf]; omega
      · obtain rfl : j = m := by omega
        rw [HA.out (by omega)] at c0
        go_wp2
        go_ret
        exact ⟨rfl, rfl⟩
    · have d0 : ((j : Int) < (n : Int)) = False := eq_false (by omega)
      obtain rfl : j = m := by omega
      have e : n = j := by omega
      subst e
      go_wp2
      go_ret
      exact ⟨rfl, rfl⟩
end Go.Proofs.YtpfkeohaaeiaaaaDoor.rea
/- Reassembly: New. -/
namespace Go.Proofs.YtpfkeohaaeiaaaaDoor.rea
open Go.RowKit
def newRb (n : Nat) : Rb := ⟨0, List.replicate n 0, List.replicate n false, 0, 0, false⟩
theorem info5 : (Tryd.prog.info? 5).map (fun i => (i.zero, i.size, i.bytes)) = some (some (.int .u8 0), 1, 1) := by kernel_rfl
theorem info4 : (Tryd.prog.info? 4).map (fun i => (i.zero, i.size, i.bytes)) = some (some (.bool false), 1, 1) := by kernel_rfl
theorem made_u8 (n : Nat) : madeCells #[.int .u8 0] n = ((List.replicate n (0 : Int)).map (Value.int .u8)).toArray := by
  apply Array.ext'
  simp only [madeCells, Array.toList_map, Array.toList_range, List.map_replicate, List.size_toArray]
  rw [List.eq_replicate_iff]
  simp [Nat.mod_one]
theorem made_bl (n : Nat) : madeCells #[.bool false] n = ((List.replicate n false).map Value.bool).toArray := by
  apply Array.ext'
  simp only [madeCells, Array.toList_map, Array.toList_range, List.map_replicate, List.size_toArray]
  rw [List.eq_replicate_iff]
  simp [Nat.mod_one]
set_option maxRecDepth 100000 in
set_option maxHeartbeats 2000000 in
theorem new_any (n : Nat) (h1 : 1 ≤ n) (h2 : n ≤ 8192) (w : World) : Calls Tryd.prog 8 #[.int .i64 n] w fun e w' => ∃ b g1 g2, e = .returned (.tuple #[.pointer (some ⟨b, 0, none⟩), .int .i64 0]) ∧ RbAt w' b g1 g2 (newRb n) ∧ Below w.heap.size w w' ∧ w.heap.size ≤ b ∧ w.heap.size ≤ g1 ∧ w.heap.size ≤ g2 := by
  have k1 := run_make_row' (P := Tryd.prog) 59 5 (.int .u8 0) 1 Tryd.underlying59 info5 rfl .i64 .i64 n (by omega) (by omega)
  have k2 := run_make_row' (P := Tryd.prog) 64 4 (.bool false) 1 Tryd.underlying64 info4 rfl .i64 .i64 n (by omega) (by omega)
  have g1 : ((n : Int) < 1) = False := eq_false (by omega)
  have g2 : (8192 < (n : Int)) = False := eq_false (by omega)
  have g3 : decide ((n : Int) > 8192) = false := decide_eq_false (by omega)
  have g4 : decide ((n : Int) < 1) = false := decide_eq_false (by omega)
  go_enter Tryd.func8, Tryd.ntmps8
  go_wp2_with fail
  have B1 := Lib.hid (box3 w (.cells (madeCells #[.int .u8 0] n) 5) (.cells (madeCells #[.bool false] n) 4) (.cells #[.int .i64 0, .slice (some ⟨w.heap.size, 0, none⟩) n n, .slice (some ⟨w.heap.size + 1, 0, none⟩) n n, .int .i64 0, .int .i64 0, .bool false] 68))
  have B2 := Lib.hid (box3 w (.cells (madeCells #[.bool false] n) 4) (.cells (madeCells #[.int .u8 0] n) 5) (.cells #[.int .i64 0, .slice (some ⟨w.heap.size + 1, 0, none⟩) n n, .slice (some ⟨w.heap.size, 0, none⟩) n n, .int .i64 0, .int .i64 0, .bool false] 68))
  go_region
  · go_wp2
    go_returns
    obtain ⟨a1, a2, a3, a4, a5⟩ := B1.out
    refine ⟨w.heap.size + 1 + 1, w.heap.size, w.heap.size + 1, rfl, ⟨?_, ?_, ?_, by simp [newRb], by simp [newRb]; omega⟩, a4.drew, by omega, by omega, by omega⟩
    · refine Eq.trans a3 ?_; simp [Rb.cells, newRb]
    · refine Eq.trans a1 ?_; rw [made_u8]; simp [u8s, newRb]
    · refine Eq.trans a2 ?_; rw [made_bl]; simp [bls, newRb]
  · go_wp2
    go_returns
    obtain ⟨a1, a2, a3, a4, a5⟩ := B2.out
    refine ⟨w.heap.size + 1 + 1, w.heap.size + 1, w.heap.size, rfl, ⟨?_, ?_, ?_, by simp [newRb], by simp [newRb]; omega⟩, a4.drew, by omega, by omega, by omega⟩
    · refine Eq.trans a3 ?_; simp [Rb.cells, newRb]
    · refine Eq.trans a2 ?_; rw [made_u8]; simp [u8s, newRb]
    · refine Eq.trans a1 ?_; rw [made_bl]; simp [bls, newRb]
end Go.Proofs.YtpfkeohaaeiaaaaDoor.rea
/- A scope through which the run goes without a goto, inside a fence (the library's wp_scope_straight has no fenced twin). -/
namespace Go.Proofs.YtpfkeohaaeiaaaaDoor
theorem stepR_scope {P : Program} {b : Frame} {a : Act} {k : List Item} {cs : List Frame} {w : World} {c : Code} : step P (lone (b.atR a (.code (.scope c) :: k)) cs w) = .next (lone (b.atR a (.code c :: .inScope c :: k)) cs w) :=
  step_lone_go (by simp [stepG, stepG.exec, Frame.atR])
theorem stepR_inScope {P : Program} {b : Frame} {a : Act} {k : List Item} {cs : List Frame} {w : World} {c : Code} : step P (lone (b.atR a (.inScope c :: k)) cs w) = .next (lone (b.atR a k) cs w) :=
  step_lone_go (by simp [stepG, stepG.exec, Frame.atR])
theorem wpIn_scope_straight {F : Fence} {n : Nat} {P : Program} {Q : Exit → Act → World → Prop} {a : Act} {w : World} {c : Code} (h : c.wpIn F n P (Exit.noGoto Q) a w) : (Code.scope c).wpIn F n P Q a w := by
  intro b k cs hro hb hr
  have h0 : (lone (b.atR a (.code (.scope c) :: k)) cs w).fenced P F := fenced_calm hb hr rfl
  obtain ⟨e, a₁, w₁, hq, harr⟩ := h b (.inScope c :: k) cs hro hb hr
  cases e with
  | normal => exact ⟨.normal, a₁, w₁, hq, .head h0 stepR_scope (StepsIn.trans harr (.one (fenced_calm hb hr rfl) stepR_inScope))⟩
  | exit id =>
    have hx : exitTo id (.inScope c :: k) = exitTo id k := by simp [exitTo]
    exact ⟨.exit id, a₁, w₁, hq, fun k' hk => .head h0 stepR_scope (harr.1 k' (by rw [hx]; exact hk)),
      fun hr' hk => let ⟨k₁, h1, h2⟩ := harr.2 hr' (by rw [hx]; exact hk); ⟨k₁, h1, .head h0 stepR_scope h2⟩⟩
  | goto l => exact hq.elim
  | ret => exact ⟨_, a₁, w₁, hq, .of_steps (.one h0 stepR_scope) harr⟩
  | panic ch => exact ⟨_, a₁, w₁, hq, .of_steps (.one h0 stepR_scope) harr⟩
  | outgrown => exact ⟨_, a₁, w₁, hq, .of_steps (.one h0 stepR_scope) harr⟩
end Go.Proofs.YtpfkeohaaeiaaaaDoor
/- Reassembly: overlap and its iterator. -/
namespace Go.Proofs.YtpfkeohaaeiaaaaDoor.rea
open Go.RowKit Go.Shelf
attribute [local go_sem] Oper.semAt_some
def pcO (off : Nat) (s : ByteArray) (fin : Bool) : Array Value := #[.int .i64 off, .string s, .bool fin]
set_option maxRecDepth 100000 in
theorem over_any (b : Nat) (off : Nat) (s : ByteArray) (fin : Bool) (w : World) : Calls Tryd.prog 51 #[.pointer (some ⟨b, 0, none⟩), .agg (pcO off s fin)] w fun e w' =>
    e = .returned (.func (.func 52) #[] #[.pointer (some ⟨w.heap.size, 0, none⟩), .pointer (some ⟨w.heap.size + 1, 0, none⟩)]) ∧ w' = (w.alloc (.cells #[.pointer (some ⟨b, 0, none⟩)] 94)).alloc (.cells (pcO off s fin) 83) := by
  unfold pcO
  go_enter Tryd.func51, Tryd.ntmps51
  go_wp2
  go_ret
  exact ⟨rfl, rfl⟩
def encO (x : Nat × Nat) : Array Value := #[.int .i64 x.1, .int .i64 x.2]
/-- the iterator's boxes and the struct stay -/
def KpO (B1 B2 b : Nat) (W W' : World) : Prop := W'.heap[B1]? = W.heap[B1]? ∧ W'.heap[B2]? = W.heap[B2]? ∧ W'.heap[b]? = W.heap[b]?
theorem KpO.refl (B1 B2 b : Nat) (W : World) : KpO B1 B2 b W W := ⟨rfl, rfl, rfl⟩
theorem KpO.trans {B1 B2 b : Nat} {x y z : World} (h : KpO B1 B2 b x y) (k : KpO B1 B2 b y z) : KpO B1 B2 b x z := ⟨k.1.trans h.1, k.2.1.trans h.2.1, k.2.2.trans h.2.2⟩
theorem KpO.below {B1 B2 b n : Nat} {x y : World} (h : Below n x y) (h1 : B1 < n) (h2 : B2 < n) (h3 : b < n) : KpO B1 B2 b x y := ⟨h.block B1 h1, h.block B2 h2, h.block b h3⟩
theorem kpO_b {B1 B2 b m : Nat} (h1 : B1 < m) (h2 : B2 < m) (h3 : b < m) (W : World) (l : Nat) (o o' : Obj) (hl : m ≤ l) (h : W.heap[l]? = some o) (_hc : o.isCells = false) (_hw : o.isWalk = false) : KpO B1 B2 b W (W.putObj l o') :=
  have hz := (Array.getElem?_eq_some_iff.1 h).1
  ⟨(grownBy_putObj' W l o').block B1 (by omega) (fun e => by cases e; omega), (grownBy_putObj' W l o').block B2 (by omega) (fun e => by cases e; omega), (grownBy_putObj' W l o').block b (by omega) (fun e => by cases e; omega)⟩
theorem ovl_length (a off : Int) (w n : Nat) : (ovl a off w n).length = ovB a off w n - ovA a off := by simp [ovl]
theorem ovl_take (a off : Int) (w n : Nat) {k : Nat} (hk : k < ovB a off w n - ovA a off) : (ovl a off w n).take (k + 1) = (ovl a off w n).take k ++ [(ovA a off + k, (off + (ovA a off + k : Nat) - a).toNat)] := by
  rw [List.take_add_one, List.getElem?_eq_getElem (by rw [ovl_length]; exact hk)]
  simp [ovl]
theorem ovl_at (a off : Int) (w n : Nat) {k : Nat} (hk : k < ovB a off w n - ovA a off) : (ovA a off + k, (off + (ovA a off + k : Nat) - a).toNat) ∈ ovl a off w n := List.mem_map.2 ⟨k, List.mem_range.2 hk, rfl⟩
set_option maxRecDepth 100000 in
set_option maxHeartbeats 4000000 in
theorem ov_in (n : Nat) (hn : 2 ≤ n) (ly B1 B2 b g1 g2 : Nat) (R : Rb) (off : Nat) (s : ByteArray) (fin : Bool) (hoff : off ≤ 1099511627776) (hs : s.size ≤ 8192) (ha : R.at_ ≤ 1125899906842624) (hw : R.bs.length ≤ 8192) (J Jx : List (Nat × Nat) → World → Prop) {mA : Nat} (hJA : AbidesFrom mA J)
    (hY : ∀ pre x W, x ∈ ovl R.at_ off R.bs.length s.size → J pre W → pre.length < (ovl R.at_ off R.bs.length s.size).length → YieldAt Fence.wide (n - 1) Tryd.prog ly (encO x) W fun e W' =>
      (e = .returned (.bool true) ∧ J (pre ++ [x]) W' ∧ KpO B1 B2 b W W') ∨ (e = .returned (.bool false) ∧ Jx (pre ++ [x]) W'))
    (W : World) (h1 : W.heap[B1]? = some (.cells #[.pointer (some ⟨b, 0, none⟩)] 94 (0, 0))) (h2 : W.heap[B2]? = some (.cells (pcO off s fin) 83 (0, 0))) (hb : W.heap[b]? = some (.cells (R.cells g1 g2) 68 (0, 0))) (h0 : J [] W) :
    CallsIn Fence.wide n Tryd.prog 52 #[.func (.yield ly) #[] #[], .pointer (some ⟨B1, 0, none⟩), .pointer (some ⟨B2, 0, none⟩)] W fun e W' => (∃ v, e = .returned v) ∧
      ((∃ ys, ys = ovl R.at_ off R.bs.length s.size ∧ J ys W') ∨ (∃ pre, (∃ k, k < (ovl R.at_ off R.bs.length s.size).length ∧ pre = (ovl R.at_ off R.bs.length s.size).take (k + 1)) ∧ Jx pre W')) := by
  have HC : Hid (∀ W', KpO B1 B2 b W W' → (W'.cell? ⟨B1, 0, none⟩ = some (.pointer (some ⟨b, 0, none⟩)) ∧ W'.cell? ⟨B2, 0, none⟩ = some (.int .i64 off) ∧ W'.cell? ⟨B2, 1, none⟩ = some (.string s) ∧
      W'.cell? ⟨b, 0, none⟩ = some (.int .i64 R.at_) ∧ W'.cell? ⟨b, 1, none⟩ = some (.slice (some ⟨g1, 0, none⟩) R.bs.length R.bs.length))) := Lib.hid (fun W' hk =>
    ⟨at_whole (hk.1.trans h1) 0 rfl, at_whole (hk.2.1.trans h2) 0 rfl, at_whole (hk.2.1.trans h2) 1 rfl, at_whole (hk.2.2.trans hb) 0 rfl, at_whole (hk.2.2.trans hb) 1 rfl⟩)
  have HJ := Lib.hid h0
  have LT := Lib.hid (fun k hk => ovl_take (R.at_ : Int) (off : Int) R.bs.length s.size (k := k) hk)
  have LA := Lib.hid (fun k hk => ovl_at (R.at_ : Int) (off : Int) R.bs.length s.size (k := k) hk)
  have LL := ovl_length (R.at_ : Int) (off : Int) R.bs.length s.size
  clear h1 h2 hb h0
  generalize ovl (R.at_ : Int) (off : Int) R.bs.length s.size = L at *
  have hA : ovA (R.at_ : Int) (off : Int) = R.at_ - off := by unfold ovA; omega
  have hB : ovB (R.at_ : Int) (off : Int) R.bs.length s.size = max (R.at_ - off) (min s.size (R.at_ + R.bs.length - off)) := by unfold ovB ovA; omega
  rw [hA, hB] at LT LA LL
  clear hA hB
  generalize R.at_ = a at *
  generalize R.bs.length = m at *
  obtain ⟨y0, y1, y2, y3, y4⟩ := HC.out W (KpO.refl _ _ _ _)
  have e1 : IntKind.i64.wrap ((a : Int) - (off : Int)) = (a : Int) - (off : Int) := IntWalk.i64_in _ (by omega)
  have e2 : (if (a : Int) - (off : Int) < 0 then (0 : Int) else (a : Int) - (off : Int)) = ((a - off : Nat) : Int) := by split <;> omega
  refine callsIn_of_wp Tryd.func52 rfl trivial ?_ rfl
  simp only [Tryd.ntmps52, List.size_toArray, List.length_cons, List.length_nil, Nat.reduceAdd, Nat.reduceSub, Array.replicate_succ, Array.replicate_zero, List.push_toArray, List.append_toArray, List.nil_append, List.cons_append]
  gi_wp2_with fail
  refine wpIn_scope_straight ?_
  gi_wp2
  refine wpIn_label ?_
  rw [show ∀ (K : Act → World → Prop) Q a w, Exit.then K Q .normal a w = K a w from fun _ _ _ _ => rfl]
  gi_wp2
  gi_region
  gi_wp2
  have DR := Lib.hid (fun pre wx (h : J pre wx) => hJA pre wx wx.drew none h (grown_drew (grown_refl _ _)) (fun r e => by cases e))
  clear y0 y1 y2 y3 y4 e1 e2 hJA
  gi_loopw [4] (fun i wr => ∃ j : Nat, j ≤ L.length ∧ i = .int .i64 ((a - off + j : Nat) : Int) ∧ J (L.take j) wr ∧ KpO B1 B2 b W wr) (fun i _ => a - off + L.length + 1 - (intOf i).toNat)
  case atStart => exact ⟨0, by omega, rfl, DR.out _ _ HJ.out, KpO.refl _ _ _ _⟩
  case round =>
    obtain ⟨j, hj, rfl, hJ, hk⟩ := hrel
    obtain ⟨y0, y1, y2, y3, y4⟩ := HC.out wr hk
    have HK := Lib.hid hk
    have HJ2 := Lib.hid hJ
    clear HJ hk hJ
    by_cases hlt : j < L.length
    · have hkx : j < max (a - off) (min s.size (a + m - off)) - (a - off) := by omega
      have d0 : ((a - off + j : Nat) : Int) < (s.size : Int) := by omega
      obtain ⟨kk, hkk⟩ : ∃ kk : Nat, (off : Int) + ((a - off + j : Nat) : Int) - (a : Int) = (kk : Int) := ⟨((off : Int) + ((a - off + j : Nat) : Int) - (a : Int)).toNat, by omega⟩
      have hkm : kk < m := by omega
      have hT := LT.out j hkx
      have hM := LA.out j hkx
      rw [hkk, Int.toNat_natCast] at hT hM
      have HT := Lib.hid hT
      have e1 : IntKind.i64.wrap ((off : Int) + ((a - off + j : Nat) : Int)) = (off : Int) + ((a - off + j : Nat) : Int) := IntWalk.i64_in _ (by omega)
      have e2 : IntKind.i64.wrap ((off : Int) + ((a - off + j : Nat) : Int) - (a : Int)) = (kk : Int) := by rw [IntWalk.i64_in _ (by omega)]; exact hkk
      have e3 : IntKind.i64.wrap (((a - off + j : Nat) : Int) + 1) = ((a - off + (j + 1) : Nat) : Int) := by rw [IntWalk.i64_in _ (by omega)]; omega
      have d1 : ((m : Int) ≤ (kk : Int)) = False := eq_false (by omega)
      have d2 : decide ((kk : Int) ≥ (m : Int)) = false := decide_eq_false (by omega)
      obtain ⟨fn, tmps, assign, body, hy, hR⟩ := hY (L.take j) (a - off + j, kk) wr.drew hM (DR.out _ _ HJ2.out) (by rw [List.length_take]; omega)
      simp only [encO] at hy
      have HR := Lib.hid hR
      have HX := Lib.hid (show a - off + (j + 1) ≤ a - off + L.length by omega)
      clear hR hT hM hkk hY
      generalize hii : a - off + j = ii at *
      generalize hi2 : a - off + (j + 1) = i2 at *
      gi_wp2
      gi_region
      gi_wp2
      refine ⟨fun _ => by omega, HR.out.mono ?_⟩
      rintro e W3 (⟨rfl, hJ3, hk3⟩ | ⟨rfl, hJx3⟩)
      · have K3 := Lib.hid (And.intro hJ3 hk3)
        clear hk3 hJ3 hy y0 y1 y2 y3 y4
        gi_wp2
        go_roundw
        case rel => exact ⟨j + 1, by omega, by simp only [Value.int.injEq, true_and]; omega, by rw [HT.out]; exact K3.out.1, HK.out.trans K3.out.2⟩
        case measure => simp [intOf]; omega
      · have K3 := Lib.hid hJx3
        clear hJx3 hy y0 y1 y2 y3 y4
        gi_wp2
        rw [show ∀ (Q : Exit → Act → World → Prop) a w, Exit.noGoto Q .normal a w = Q .normal a w from fun _ _ _ => rfl]
        go_end0
        exact ⟨⟨_, rfl⟩, .inr ⟨_, ⟨j, hlt, HT.out.symm ▸ rfl⟩, K3.out⟩⟩
    · have hjl : j = L.length := by omega
      have TL := Lib.hid (show L.take j = L from by rw [hjl]; exact List.take_length)
      by_cases hin : a - off + j < s.size
      · have d0 : ((a - off + j : Nat) : Int) < (s.size : Int) := by omega
        obtain ⟨kk, hkk⟩ : ∃ kk : Nat, (off : Int) + ((a - off + j : Nat) : Int) - (a : Int) = (kk : Int) := ⟨((off : Int) + ((a - off + j : Nat) : Int) - (a : Int)).toNat, by omega⟩
        have hkm : m ≤ kk := by omega
        have e1 : IntKind.i64.wrap ((off : Int) + ((a - off + j : Nat) : Int)) = (off : Int) + ((a - off + j : Nat) : Int) := IntWalk.i64_in _ (by omega)
        have e2 : IntKind.i64.wrap ((off : Int) + ((a - off + j : Nat) : Int) - (a : Int)) = (kk : Int) := by rw [IntWalk.i64_in _ (by omega)]; exact hkk
        have d1 : ((m : Int) ≤ (kk : Int)) = True := eq_true (by omega)
        have d2 : decide ((kk : Int) ≥ (m : Int)) = true := decide_eq_true (by omega)
        clear hkk hY
        generalize hii : a - off + j = ii at *
        gi_wp2
        gi_region
        gi_wp2
        refine ⟨(fun _ h => by cases h), ?_⟩
        gi_wp2
        rw [show ∀ (Q : Exit → Act → World → Prop) a w, Exit.noGoto Q .normal a w = Q .normal a w from fun _ _ _ => rfl]
        go_end0
        exact ⟨⟨_, rfl⟩, .inl ⟨_, rfl, by have := DR.out _ _ HJ2.out; rw [TL.out] at this; exact this⟩⟩
      · have d0 : (((a - off + j : Nat) : Int) < (s.size : Int)) = False := eq_false (by omega)
        clear hY
        gi_wp2
        rw [show ∀ (Q : Exit → Act → World → Prop) a w, Exit.noGoto Q .normal a w = Q .normal a w from fun _ _ _ => rfl]
        go_end0
        exact ⟨⟨_, rfl⟩, .inl ⟨_, rfl, by have := HJ2.out; rw [TL.out] at this; exact this⟩⟩
theorem ov_stops (n : Nat) (hn : 2 ≤ n) (B1 B2 b g1 g2 : Nat) (R : Rb) (off : Nat) (s : ByteArray) (fin : Bool) (hoff : off ≤ 1099511627776) (hs : s.size ≤ 8192) (ha : R.at_ ≤ 1125899906842624) (hw : R.bs.length ≤ 8192) (W : World)
    (h1 : W.heap[B1]? = some (.cells #[.pointer (some ⟨b, 0, none⟩)] 94 (0, 0))) (h2 : W.heap[B2]? = some (.cells (pcO off s fin) 83 (0, 0))) (hb : W.heap[b]? = some (.cells (R.cells g1 g2) 68 (0, 0))) :
    SeqStopsK Fence.wide n Tryd.prog 52 #[.pointer (some ⟨B1, 0, none⟩), .pointer (some ⟨B2, 0, none⟩)] (fun x : { x : Nat × Nat // x ∈ ovl R.at_ off R.bs.length s.size } => encO x.1) (KpO B1 B2 b) (fun ys => ys.map (·.1) = ovl R.at_ off R.bs.length s.size) (fun _ => True) (ovl (R.at_ : Int) (off : Int) R.bs.length s.size).length W := fun ly J Jx W2 hW hJA hJxA hY h0 => by
  refine (ov_in n hn ly B1 B2 b g1 g2 R off s fin hoff hs ha hw (fun pre W => ∃ pre' : List { x : Nat × Nat // x ∈ ovl R.at_ off R.bs.length s.size }, pre'.map (·.1) = pre ∧ J pre' W) (fun pre W => ∃ pre' : List { x : Nat × Nat // x ∈ ovl R.at_ off R.bs.length s.size }, pre'.map (·.1) = pre ∧ Jx pre' W)
    (mA := W2.heap.size) (fun s A C row hs hg hr => by obtain ⟨p, h1, h2⟩ := hs; exact ⟨p, h1, hJA p A C row h2 hg hr⟩) ?_ W2 ((hW.block B1 (heap_lt h1)).trans h1) ((hW.block B2 (heap_lt h2)).trans h2) ((hW.block b (heap_lt hb)).trans hb) ⟨[], rfl, h0⟩).mono ?_
  · rintro pre x W hx ⟨pre', rfl, hj⟩ hlen
    refine (hY pre' ⟨x, hx⟩ W hj (by simpa using hlen)).mono ?_
    rintro e W' (⟨h1, h2, h3⟩ | ⟨h1, h2⟩)
    · exact .inl ⟨h1, ⟨pre' ++ [⟨x, hx⟩], by simp, h2⟩, h3⟩
    · exact .inr ⟨h1, pre' ++ [⟨x, hx⟩], by simp, h2⟩
  · rintro e W' ⟨h1, h2⟩
    refine ⟨h1, ?_⟩
    rcases h2 with ⟨ys, rfl, ys', e, hj⟩ | ⟨pre, _, pre', _, hj⟩
    · exact .inl ⟨ys', e, hj⟩
    · exact .inr ⟨pre', trivial, hj⟩
end Go.Proofs.YtpfkeohaaeiaaaaDoor.rea
/- A region that draws its order, by an invariant: it holds at the start and behind whatever operation may come up; then it holds behind the whole, in every order. -/
namespace Go.Proofs.YtpfkeohaaeiaaaaDoor
open Go.RowKit
/-- every operation waits only for elder ones (an edge that does not bind in every order is no waiting) -/
def upward (ops : Array Oper) : Bool := (List.range ops.size).all fun i => ((ops[i]?).map (·.after.all fun e => !Region.binds .any e || decide (e.on < i))).getD true
section
variable {P : Program} {ops : Array Oper} {Q : Exit → Act → World → Prop}
theorem getD_is {l : Array Bool} {i : Nat} (h : i < l.size) : l.getD i true = l.getD i false := by simp [Array.getD, h]
theorem mem_ready {l : Array Bool} {i : Nat} : i ∈ Region.ready .any ops l ↔ ∃ o, ops[i]? = some o ∧ l.getD i true = false ∧ ∀ e ∈ o.after, Region.binds .any e = true → l.getD e.on false = true := by
  unfold Region.ready
  rw [List.mem_filter, List.mem_range]
  constructor
  · rintro ⟨hi, h⟩
    rw [Array.getElem?_eq_getElem hi] at h ⊢
    simp only [Bool.and_eq_true, Option.map_some, Option.getD_some, Array.all_eq_true_iff_forall_mem, Bool.or_eq_true, Bool.not_eq_true'] at h
    exact ⟨_, rfl, h.1, fun e he hb => (h.2 e he).resolve_left (by simp [hb])⟩
  · rintro ⟨o, ho, h1, h2⟩
    refine ⟨(Array.getElem?_eq_some_iff.1 ho).1, ?_⟩
    rw [ho]
    simp only [Bool.and_eq_true, Option.map_some, Option.getD_some, Array.all_eq_true_iff_forall_mem, Bool.or_eq_true, Bool.not_eq_true']
    exact ⟨h1, fun e he => by
      cases hb : Region.binds .any e with
      | false => exact .inl rfl
      | true => exact .inr (h2 e he hb)⟩
theorem all_listed {l : Array Bool} (hz : l.size = ops.size) (hu : upward ops = true) (hr : Region.ready .any ops l = []) : ∀ i, i < ops.size → l.getD i false = true := by
  intro i
  induction i using Nat.strongRecOn with
  | ind i ih =>
    intro hi
    cases hl : l.getD i false with
    | true => rfl
    | false =>
      have ho : ops[i]? = some ops[i] := Array.getElem?_eq_getElem hi
      have hup : ∀ e ∈ ops[i].after, Region.binds .any e = true → e.on < i := by
        have := List.all_eq_true.1 hu i (List.mem_range.2 hi)
        rw [ho] at this
        simp only [Option.map_some, Option.getD_some, Array.all_eq_true_iff_forall_mem, Bool.or_eq_true, Bool.not_eq_true', decide_eq_true_eq] at this
        exact fun e he hb => (this e he).resolve_left (by simp [hb])
      have : i ∈ Region.ready .any ops l := mem_ready.2 ⟨_, ho, by rw [getD_is (by omega)]; exact hl, fun e he hb => ih _ (hup e he hb) (Nat.lt_trans (hup e he hb) hi)⟩
      rw [hr] at this
      cases this
def left (n : Nat) (l : Array Bool) : Nat := (List.range n).countP fun j => !l.getD j true
theorem countP_lt {p q : Nat → Bool} {i : Nat} : ∀ {l : List Nat}, i ∈ l → (∀ j, q j = true → p j = true) → p i = true → q i = false → l.countP q < l.countP p
  | [], h, _, _, _ => by cases h
  | x :: l, h, hpq, hp, hq => by
    have hle : l.countP q ≤ l.countP p := List.countP_mono_left (fun j _ => hpq j)
    rcases List.mem_cons.1 h with rfl | h
    · rw [List.countP_cons_of_neg (by simp [hq]), List.countP_cons_of_pos hp]; omega
    · have := countP_lt h hpq hp hq
      rw [List.countP_cons, List.countP_cons]
      have : (if q x = true then 1 else 0) ≤ (if p x = true then 1 else 0) := by
        by_cases hx : q x = true
        · simp [hx, hpq x hx]
        · simp [hx]
      omega
theorem left_set {n i : Nat} {l : Array Bool} (hi : i < n) (hz : l.size = n) (hl : l.getD i true = false) : left n (l.setIfInBounds i true) < left n l := by
  unfold left
  refine countP_lt (i := i) (List.mem_range.2 hi) (fun j hj => ?_) (by simp [hl]) (by simp [Array.getD, hz, hi])
  by_cases e : j = i
  · subst e; simp [hl]
  · by_cases hj2 : j < l.size
    · simpa [Array.getD, hj2, Array.getElem_setIfInBounds, Ne.symm e] using hj
    · simp [Array.getD, hj2] at hj
theorem wpAny_inv (I : (Nat → Bool) → Act → World → Prop) (hu : upward ops = true)
    (hs : ∀ (L : Nat → Bool) a w i o, ops[i]? = some o → L i = false → (∀ e ∈ o.after, Region.binds .any e = true → L e.on = true) → I L a w → wpOp P ops Q i (I (fun j => j == i || L j)) a w)
    (he : ∀ L a w, (∀ i, i < ops.size → L i = true) → I L a w → Q .normal a w) :
    ∀ (fuel : Nat) (l : Array Bool) a w, l.size = ops.size → left ops.size l ≤ fuel → I (fun j => l.getD j false) a w → wpAny P .any ops Q fuel l a w := by
  intro fuel
  induction fuel with
  | zero =>
    intro l a w hz hf hI
    have hr : Region.ready .any ops l = [] := by
      rw [List.eq_nil_iff_forall_not_mem]
      intro i hi
      obtain ⟨o, ho, h1, _⟩ := mem_ready.1 hi
      have := left_set (Array.getElem?_eq_some_iff.1 ho).1 hz h1
      omega
    exact ⟨hr, he _ a w (all_listed hz hu hr) hI⟩
  | succ fuel ih =>
    intro l a w hz hf hI
    refine ⟨fun hr => he _ a w (all_listed hz hu hr) hI, fun i hi => ?_⟩
    obtain ⟨o, ho, h1, h2⟩ := mem_ready.1 hi
    have hlt := (Array.getElem?_eq_some_iff.1 ho).1
    have hL : l.getD i false = false := by rw [← getD_is (by omega)]; exact h1
    have hd := left_set hlt hz h1
    refine wpOp_mono (fun a' w' hI' => ih _ a' w' (by simpa using hz) (by omega) ?_) (hs _ a w i o ho hL h2 hI)
    have e : (fun j => (l.setIfInBounds i true).getD j false) = fun j => j == i || l.getD j false := by
      funext j
      by_cases e : j = i
      · subst e; simp [Array.getD, hz, hlt]
      · by_cases hj : j < l.size
        · simp [Array.getD, hj, Ne.symm e, e]
        · simp [Array.getD, hj, e]
    rw [e]
    exact hI'
/-- **the law** -/
theorem wp_region_inv {id : Nat} {a : Act} {w : World} (hm : P.follows .mixedOrders = true) (hu : upward ops = true) (I : (Nat → Bool) → Act → World → Prop) (h0 : I (fun _ => false) a w.drew)
    (hs : ∀ (L : Nat → Bool) a w i o, ops[i]? = some o → L i = false → (∀ e ∈ o.after, Region.binds .any e = true → L e.on = true) → I L a w → wpOp P ops Q i (I (fun j => j == i || L j)) a w)
    (he : ∀ L a w, (∀ i, i < ops.size → L i = true) → I L a w → Q .normal a w) : (Code.region id ops true).wp P Q a w := by
  refine wp_region_any hm (wpAny_inv I hu hs he _ _ _ _ (by simp) ?_ ?_)
  · refine Nat.le_trans List.countP_le_length (by simp)
  · have e : (fun j => (Array.replicate ops.size false).getD j false) = fun _ => false := by
      funext j
      by_cases hj : j < ops.size <;> simp [Array.getD, hj]
    rw [e]
    exact h0
end
end Go.Proofs.YtpfkeohaaeiaaaaDoor
/- A region that draws its order, reads and calls what only makes memory, with guards: in every order every operation yields what is known ahead, or is not wanted. -/
namespace Go.Proofs.YtpfkeohaaeiaaaaDoor.rea
open Go.RowKit
section
variable {P : Program} {ops : Array Oper} {Q : Exit → Act → World → Prop}
def setAll (slot : Nat → Option Nat) (val : Nat → Value) (m : Nat) (t : Array Value) : Array Value := (List.range m).foldl (fun t i => match slot i with | some d => t.setIfInBounds d (val i) | none => t) t
theorem setAll_succ (slot : Nat → Option Nat) (val : Nat → Value) (m : Nat) (t : Array Value) : setAll slot val (m + 1) t = (match slot m with | some d => (setAll slot val m t).setIfInBounds d (val m) | none => setAll slot val m t) := by
  unfold setAll
  rw [List.range_succ, List.foldl_append]
  rfl
theorem setAll_size (slot : Nat → Option Nat) (val : Nat → Value) (m : Nat) (t : Array Value) : (setAll slot val m t).size = t.size := by
  induction m with
  | zero => rfl
  | succ m ih =>
    rw [setAll_succ]
    cases slot m with
    | none => exact ih
    | some d => simpa using ih
theorem setAll_get (slot : Nat → Option Nat) (val : Nat → Value) (m : Nat) (t : Array Value) (hin : ∀ i j d, i < m → j < m → slot i = some d → slot j = some d → i = j) (hz : ∀ i d, i < m → slot i = some d → d < t.size) (p : Nat) :
    (∃ i, i < m ∧ slot i = some p ∧ (setAll slot val m t)[p]? = some (val i)) ∨ ((∀ i, i < m → slot i ≠ some p) ∧ (setAll slot val m t)[p]? = t[p]?) := by
  induction m with
  | zero => exact .inr ⟨fun i hi => absurd hi (Nat.not_lt_zero i), rfl⟩
  | succ m ih =>
    have ih := ih (fun i j d hi hj => hin i j d (by omega) (by omega)) (fun i d hi => hz i d (by omega))
    rw [setAll_succ]
    cases hs : slot m with
    | none =>
      rcases ih with ⟨i, hi, h1, h2⟩ | ⟨h1, h2⟩
      · exact .inl ⟨i, by omega, h1, h2⟩
      · refine .inr ⟨fun i hi => ?_, h2⟩
        by_cases e : i = m
        · subst e; rw [hs]; intro h; cases h
        · exact h1 i (by omega)
    | some d =>
      have hd := hz m d (by omega) hs
      by_cases e : d = p
      · subst e
        exact .inl ⟨m, by omega, hs, Array.getElem?_setIfInBounds_self_of_lt (by rw [setAll_size]; exact hd)⟩
      · show (∃ i, i < m + 1 ∧ slot i = some p ∧ (Array.setIfInBounds _ _ _)[p]? = _) ∨ (_ ∧ (Array.setIfInBounds _ _ _)[p]? = _)
        rw [Array.getElem?_setIfInBounds_ne e]
        rcases ih with ⟨i, hi, h1, h2⟩ | ⟨h1, h2⟩
        · exact .inl ⟨i, by omega, h1, h2⟩
        · refine .inr ⟨fun i hi => ?_, h2⟩
          by_cases e2 : i = m
          · subst e2; rw [hs]; intro h; cases h; exact e rfl
          · exact h1 i (by omega)
structure GInv (m : Nat) (slot : Nat → Option Nat) (val : Nat → Value) (A0 : Act) (W0 : World) (L : Nat → Bool) (a : Act) (w : World) : Prop where
  nod : a.defers = A0.defers
  size : a.tmps.size = A0.tmps.size
  old : ∀ p, (∀ i, i < m → slot i ≠ some p) → a.tmps[p]? = A0.tmps[p]?
  new : ∀ i d, i < m → slot i = some d → L i = true → a.tmps[d]? = some (val i)
  w : Below W0.heap.size W0 w
structure GHas (m : Nat) (slot : Nat → Option Nat) (val : Nat → Value) (A0 : Act) (o : Oper) (a : Act) : Prop where
  old : ∀ p, (∀ i, i < m → slot i ≠ some p) → a.tmps[p]? = A0.tmps[p]?
  dep : ∀ e ∈ o.after, Region.binds .any e = true → e.on < m → ∀ d, slot e.on = some d → a.tmps[d]? = some (val e.on)
theorem grow_region {id : Nat} (m : Nat) (slot : Nat → Option Nat) (val : Nat → Value) {A0 : Act} {W0 : World} {tm : Array Value} (hm : P.follows .mixedOrders = true) (hu : upward ops = true) (hz : ops.size = m)
    (hsl : ∀ i d, i < m → slot i = some d → d < A0.tmps.size) (hin : ∀ i j d, i < m → j < m → slot i = some d → slot j = some d → i = j)
    (hop : ∀ i o, i < m → ops[i]? = some o → ∀ a w, Below W0.heap.size W0 w → GHas m slot val A0 o a → o.dst = slot i ∧ (slot i).isSome = true ∧
      ((Region.wanted o (yielded ops a.tmps) = true ∧ ∀ (K : Act → World → Prop), (∀ w', Below w.heap.size w w' → K (a.put o.dst (val i)) w') → o.wp P a w K Q) ∨ (Region.wanted o (yielded ops a.tmps) = false ∧ val i = undef)))
    (htm : setAll slot val m A0.tmps = tm) (h : ∀ w, Below W0.heap.size W0 w → Q .normal { tmps := tm, defers := A0.defers } w) : (Code.region id ops true).wp P Q A0 W0 := by
  refine wp_region_inv hm hu (fun L a w => GInv m slot val A0 W0 L a w) ⟨rfl, rfl, fun _ _ => rfl, (fun _ _ _ _ h => by cases h), (Below.refl _ W0).drew⟩ ?_ ?_
  · rintro L a w i o ho hL hdep hI
    have hi : i < m := by have := (Array.getElem?_eq_some_iff.1 ho).1; omega
    obtain ⟨h1, hsm, h4⟩ := hop i o hi ho a w hI.w ⟨hI.old, fun e he hb hlt d hd => hI.new _ d hlt hd (hdep e he hb)⟩
    obtain ⟨d, hd⟩ := Option.isSome_iff_exists.1 hsm
    have hsi : d < a.tmps.size := by rw [hI.size]; exact hsl i d hi hd
    have key : ∀ w', Below w.heap.size w w' → GInv m slot val A0 W0 (fun j => j == i || L j) (a.put o.dst (val i)) w' := by
      intro w' hb
      rw [h1, hd]
      refine ⟨hI.nod, ?_, ?_, ?_, hI.w.trans (hb.mono hI.w.size)⟩
      · show (a.tmps.setIfInBounds _ _).size = _; simpa using hI.size
      · intro p hp
        show (a.tmps.setIfInBounds _ _)[p]? = _
        rw [Array.getElem?_setIfInBounds_ne (fun e => hp i hi (by rw [hd, e]))]
        exact hI.old p hp
      · intro j d2 hj hd2 hl
        show (a.tmps.setIfInBounds _ _)[d2]? = _
        by_cases hji : j = i
        · subst hji
          rw [hd] at hd2; cases hd2
          exact Array.getElem?_setIfInBounds_self_of_lt hsi
        · have hne : d ≠ d2 := fun e => hji (hin j i d2 hj hi hd2 (by rw [hd, e]))
          rw [Array.getElem?_setIfInBounds_ne hne]
          rcases Bool.or_eq_true .. ▸ hl with e | e
          · exact absurd (beq_iff_eq.1 e) hji
          · exact hI.new j d2 hj hd2 e
    refine wpOp_step ho fun K' hK => ?_
    rcases h4 with ⟨hw, h5⟩ | ⟨hw, h5⟩
    · rw [if_pos hw]
      exact h5 _ (fun w' hb => hK _ _ (key w' hb))
    · rw [if_neg (by rw [hw]; decide), ← h5]
      exact hK _ _ (key w (Below.refl _ w))
  · rintro L a w hall hI
    have ha : a = { tmps := tm, defers := A0.defers } := by
      obtain ⟨at_, ad⟩ := a
      have h1 : ad = A0.defers := hI.nod
      have h2 : at_ = tm := by
        rw [← htm]
        apply Array.ext_getElem?
        intro p
        rcases setAll_get slot val m A0.tmps hin (fun i d hi hd => hsl i d hi hd) p with ⟨i, hi, hs, hv⟩ | ⟨hs, hv⟩
        · rw [hv]; exact hI.new i p hi hs (hall i (by omega))
        · rw [hv]; exact hI.old p hs
      rw [h1, h2]
    rw [ha]
    exact h w hI.w
end
end Go.Proofs.YtpfkeohaaeiaaaaDoor.rea
namespace Go.Proofs.YtpfkeohaaeiaaaaDoor.rea
/-- n operations set the slots from s on, one more (if m = n + 1) the slot x -/
def slotG (s n x i : Nat) : Option Nat := if i < n then some (s + i) else if i = n then some x else none
theorem slotG_is {s n x i d : Nat} (h : slotG s n x i = some d) : (i < n ∧ d = s + i) ∨ (i = n ∧ d = x) := by
  unfold slotG at h
  split at h
  · cases h; exact .inl ⟨‹_›, rfl⟩
  · split at h
    · cases h; exact .inr ⟨‹_›, rfl⟩
    · cases h
end Go.Proofs.YtpfkeohaaeiaaaaDoor.rea
