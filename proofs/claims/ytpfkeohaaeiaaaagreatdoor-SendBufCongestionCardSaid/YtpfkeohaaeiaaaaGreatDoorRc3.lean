/- Texts FBase FObj FHeld FMap FA FB FF FG FH FOs FI FInv of this claim, one behind the other. -/
import Derived.WalkKit
import Derived.ProofKit
import Derived.OpenShut
import Derived.Below
import Derived.ChangeSame
import Derived.Lib.Hide
import Derived.Handy
import Derived.ChangeBook
import Derived.ChangeStays
import Derived.ChangeSlices
import Derived.Test.YtpfkeohaaeiaaaaGreatDoorProg
import Derived.Laws.Rows
import Derived.Laws.AppendOwn
import Derived.Deep.Quiet
import Derived.Deep.RegionHeld3
import Derived.Deep.RegionWith
import Derived.Deep.QuietTactic
import Derived.Maps.OwnOps
import Derived.Maps.OwnSet
import Derived.Maps.Views
import Derived.RangeFuncNested
import Derived.RangeFuncBound
import Derived.RangeFuncCalls
import Derived.RangeFuncLeaves
import Derived.Shelf.Abstract
import Derived.Shelf.RegionOpen
import Derived.OwnWalkIn
import Derived.TacticsInMore
import Derived.LoopNIn
import Derived.LoopIn
import Derived.Laws.EntriesVeiled
import Derived.Stop.RegionWithIn
import Derived.RangeFuncBox
import Derived.Maps.AppendAt
import Derived.Laws.BytesArg
import Derived.Orders
/- Small lemmas on worlds that every text of this seat uses: what lies below a heap's size stays, and the row's last step from 'Below' alone. -/
namespace Go.Proofs.YtpfkeohaaeiaaaaGreatDoor.frm
open Go.RowKit Go.WideShapes Go.ChangeShapes
set_option maxRecDepth 100000
theorem btrans {a b c : World} (h : Below a.heap.size a b) (k : Below b.heap.size b c) : Below a.heap.size a c := h.trans (k.mono h.size)
section
variable {H : Type} {enc : TypeId × Value → H} {P : Program}
theorem post_of_below {f : Func} {s : ChangeSpec} {apart fresh handsOn again : Bool} {W W' : World} {args : Array Value} {v : Value} {ds gs : List (DataW H)} {before pa pv : List MemPlace}
    (hW : DataW.Whole enc P f.params.toList s.vars apart W args.toList ds gs before)
    (hres : ∀ (b : Nat) (sp : Nat → Bool) (hd : Bool), DataW.TrodAll enc P W' b sp hd f.resultTypes.toList (v.resultList f.resultTypes.size) (s.fn H (ds ++ gs)).results [])
    (hargs : ∀ sp : Nat → Bool, (∀ p ∈ before, sp p.block = true) → DataW.TrodAll enc P W' 0 sp true f.params.toList args.toList (s.fn H (ds ++ gs)).args pa)
    (hvars : ∀ sp : Nat → Bool, (∀ p ∈ before, sp p.block = true) → DataW.TrodVars enc P W' sp s.vars (s.fn H (ds ++ gs)).vars pv)
    (hps : before = pa ++ pv) (hb : Below W.heap.size W W')
    (hok : ∀ (j : Nat) (t : TypeId) (r : Value), f.resultTypes[j]? = some t → (v.resultList f.resultTypes.size)[j]? = some r → Value.okWide P W' .any 0 t r) :
    s.post enc P f apart fresh handsOn again W args v W' := by
  have hlt : ∀ p ∈ before, p.block < W.heap.size := fun p hp => hW.lt p hp
  have hold : ∀ p ∈ before, (fun b => decide (b < W.heap.size)) p.block = true := fun p hp => by simpa using hlt p hp
  refine ⟨ds, gs, before, [], pa, pv, hW, hres _ _ _, hargs _ hold, hvars _ hold, World.keptBut_mono (fun p hp => ⟨hp, ?_⟩) (hb.frame (· ∈ before)), fun _ => ?_⟩
  · rw [hps, List.mem_append] at hp
    exact Or.inr hp
  · obtain ⟨_, _, _, _, _, hz, hn⟩ := hW
    refine ⟨hok, _, _, ([] ++ pa) ++ pv, ⟨[] ++ pa, pv, trodAll_append (hargs _ (fun _ _ => rfl)) (hres _ _ _), hvars _ (fun _ _ => rfl), rfl, ?_, ?_⟩, ?_⟩
    · intro b off hp
      have hin : MemPlace.cell b off ∈ before := by rw [hps]; simpa using hp
      rw [hb.frozen (hlt _ hin)]
      exact hz b off hin
    · intro ha
      have := hn ha
      rw [hps] at this
      simpa using this
    · intro p hp _
      rw [hps]
      simpa using hp

theorem laidOut' : laidOutB Tryz.prog = true := by kernel_rfl
/-- an argument reads again behind a call that leaves alone what lay below -/
theorem again1 {W W' : World} {t : TypeId} {v : Value} {d : DataW H} {p : List MemPlace} (hr : Tryz.prog.readableRec t = true) (hrow : decide (t < Tryz.prog.types.size) = true)
    (h : DataW.Trod enc Tryz.prog W 0 (fun _ => true) true t v d p) (hb : Below W.heap.size W W') (hlt : ∀ q ∈ p, q.block < W.heap.size) (sp : Nat → Bool) (hsp : ∀ q ∈ p, sp q.block = true) :
    DataW.Trod enc Tryz.prog W' 0 sp true t v d p := by
  obtain ⟨fuel, h⟩ := h
  exact ⟨fuel, DataW.trod_stays (kids_book laidOut' hr) (book_sized hr) (fun h => by cases h) ⟨of_decide_eq_true hrow, book_self t⟩ h (fun x hx => hb.same (hlt x hx)) hsp⟩
end
/-- the slice value v holds the integers zs of kind k -/
def IntsAt (k : IntKind) (w : World) (v : Value) (zs : List Int) : Prop :=
  (∃ a cap, v = .slice a 0 cap ∧ (a = none → cap = 0) ∧ zs = []) ∨
  (∃ b off cap, v = .slice (some ⟨b, off, none⟩) zs.length cap ∧ 0 < zs.length ∧ zs.length ≤ cap ∧ cap ≤ maxLen ∧ ∀ j, j < zs.length → w.cell? ⟨b, off + j, none⟩ = some (.int k (zs[j]?.getD 0)))
theorem cell_spot {w : World} {a : Addr} {v : Value} (h : w.cell? a = some v) : a = ⟨a.block, a.off, none⟩ := by
  obtain ⟨b, o, s⟩ := a
  unfold World.cell? at h
  cases s with
  | none => rfl
  | some x => simp at h; split at h <;> simp_all
theorem add_plain (b o i : Nat) : (⟨b, o, none⟩ : Addr).add i = ⟨b, o + i, none⟩ := by unfold Addr.add; split <;> simp_all
set_option maxRecDepth 100000 in
theorem ints_at {H : Type} {enc : TypeId × Value → H} {W : World} {base : Nat} {held : Bool} {t e : TypeId} {k : IntKind} {v : Value} {d : DataW H} {p : List MemPlace}
    (ht : Tryz.prog.underlying t = some (.slice e)) (he : Tryz.prog.underlying e = some (.int k)) (hc : Tryz.prog.cellsOf e = 1) (hv : Value.okWide Tryz.prog W .any base t v)
    (h : DataW.Trod enc Tryz.prog W 0 (fun _ => true) held t v d p) : ∃ zs, IntsAt k W v zs ∧ zs.length ≤ maxLen ∧ ∀ n ∈ zs, (Lit.int k n).wf = true := by
  obtain ⟨a0, len, cap, rfl⟩ := okWide_slice ht hv
  obtain ⟨fuel, hf⟩ := h
  rcases open_ints ht he hc hf with ⟨hcs, hx⟩ | ⟨a, len', cap', zs, hcs, _, hl, hm, hz, hx, hcell, hwz⟩
  · simp [Value.cells] at hcs
    obtain ⟨rfl, rfl, rfl⟩ := hcs
    exact ⟨[], .inl ⟨_, _, rfl, fun _ => rfl, rfl⟩, by simp, by simp⟩
  · simp [Value.cells] at hcs
    obtain ⟨rfl, rfl, rfl⟩ := hcs
    simp only [if_true] at hz
    rcases Nat.eq_zero_or_pos len with h0 | h0
    · subst h0
      exact ⟨[], .inl ⟨_, _, rfl, (fun h => by cases h), rfl⟩, by simp, by simp⟩
    · refine ⟨zs.take len, .inr ?_, by rw [List.length_take]; omega, fun n hn => hwz n (List.mem_of_mem_take hn)⟩
      have hc0 := cell_spot (hcell 0 (by omega))
      have hlen : (zs.take len).length = len := by rw [List.length_take]; omega
      obtain ⟨b, o, s⟩ := a
      obtain rfl : s = none := by
        simp only [Addr.add, if_true] at hc0
        exact congrArg Addr.spot hc0
      refine ⟨b, o, cap, by rw [hlen], by omega, by omega, hm, fun j hj => ?_⟩
      rw [hlen] at hj
      have := hcell j (by omega)
      rw [add_plain] at this
      rw [this, List.getElem?_take_of_lt hj, List.getD_eq_getElem?_getD]
theorem IntsAt.below {k : IntKind} {w w' : World} {v : Value} {zs : List Int} (h : IntsAt k w v zs) (hb : Below w.heap.size w w') : IntsAt k w' v zs := by
  rcases h with h | ⟨b, off, cap, h1, h2, h3, h4, h5⟩
  · exact .inl h
  · exact .inr ⟨b, off, cap, h1, h2, h3, h4, fun j hj => (hb.cell (p := ⟨b, off + j, none⟩) (World.block_lt_of_cell? _ _ (h5 j hj))).trans (h5 j hj)⟩
theorem IntsAt.form {k : IntKind} {w : World} {v : Value} {zs : List Int} (h : IntsAt k w v zs) : ∃ a cap, v = .slice a zs.length cap ∧ zs.length ≤ cap := by
  rcases h with ⟨a, cap, rfl, _, rfl⟩ | ⟨b, off, cap, rfl, h0, hl, hc, hx⟩
  · exact ⟨a, cap, rfl, Nat.zero_le _⟩
  · exact ⟨_, cap, rfl, hl⟩
theorem IntsAt.take {k : IntKind} {w : World} {a : Option Addr} {cap : Nat} {zs : List Int} (h : IntsAt k w (.slice a zs.length cap) zs) (m : Nat) (hm : m ≤ zs.length) : IntsAt k w (.slice a m cap) (zs.take m) := by
  have hlen : (zs.take m).length = m := by rw [List.length_take]; omega
  rcases h with ⟨a', cap', e, hn, rfl⟩ | ⟨b, off, cap', e, h0, hl, hc, hx⟩
  · cases e
    simp at hm; subst hm
    exact .inl ⟨_, _, rfl, hn, rfl⟩
  · cases e
    rcases Nat.eq_zero_or_pos m with h1 | h1
    · subst h1; exact .inl ⟨_, _, rfl, (fun h => by cases h), rfl⟩
    · refine .inr ⟨b, off, cap, by rw [hlen], by omega, by omega, hc, fun j hj => ?_⟩
      rw [hlen] at hj
      rw [hx j (by omega), List.getElem?_take_of_lt hj]
end Go.Proofs.YtpfkeohaaeiaaaaGreatDoor.frm
/- Blocks known whole: what a store, a new block and a callee leave of them. -/
namespace Go.Proofs.YtpfkeohaaeiaaaaGreatDoor.frm
open Go.RowKit
set_option maxRecDepth 100000
theorem grown_refl (w : World) (r : Option Nat) : w.grownBy w r := ⟨rfl, rfl, rfl, Nat.le_refl _, fun _ _ _ => rfl⟩
theorem grown_trans {a b c : World} {r : Option Nat} (h : a.grownBy b r) (k : b.grownBy c r) : a.grownBy c r :=
  ⟨k.os.trans h.os, k.tape.trans h.tape, k.output.trans h.output, Nat.le_trans h.size k.size, fun i hi hr => (k.block i (Nat.lt_of_lt_of_le hi h.size) hr).trans (h.block i hi hr)⟩
theorem grown_set {a w : World} {b i : Nat} (h : a.grownBy w (some b)) (v : Value) : a.grownBy (w.setCell ⟨b, i, none⟩ v) (some b) :=
  ⟨h.os, h.tape, h.output, by simpa using h.size, fun k hk hr => (heap_setCell_other w _ k v (fun e => hr (by rw [e]))).trans (h.block k hk hr)⟩
theorem grown_drew {a w : World} {r : Option Nat} (h : a.grownBy w r) : a.grownBy w.drew r := ⟨h.os, h.tape, h.output, h.size, h.block⟩
theorem grown_alloc {a w : World} {r : Option Nat} (h : a.grownBy w r) (o : Obj) : a.grownBy (w.alloc o) r :=
  ⟨h.os, h.tape, h.output, by simp; exact Nat.le_succ_of_le h.size, fun k hk hr => (Below.heap_alloc w o k (Nat.lt_of_lt_of_le hk h.size)).trans (h.block k hk hr)⟩
theorem grown_below {w w' : World} {r : Option Nat} (h : Below w.heap.size w w') : w.grownBy w' r := ⟨h.os, h.tape, h.output, h.size, fun k hk _ => h.block k hk⟩
/-- a block of its own: what was below stays -/
theorem below_grown {a w w' : World} {b : Nat} (hB : Below a.heap.size a w) (h : w.grownBy w' (some b)) (hb : a.heap.size ≤ b) : Below a.heap.size a w' :=
  hB.grown h hB.size (fun k e => by cases e; exact hb)
theorem heap_grown {w w' : World} {b k : Nat} {o : Obj} (h : w.grownBy w' (some b)) (hk : w.heap[k]? = some o) (hne : k ≠ b) : w'.heap[k]? = some o :=
  (h.block k (Array.getElem?_eq_some_iff.1 hk).1 (fun e => hne (by cases e; rfl))).trans hk
theorem heap_below {w w' : World} {k : Nat} {o : Obj} (h : Below w.heap.size w w') (hk : w.heap[k]? = some o) : w'.heap[k]? = some o :=
  (h.block k (Array.getElem?_eq_some_iff.1 hk).1).trans hk
theorem cell_whole {w : World} {b : Nat} {cs : Array Value} {T : TypeId} (h : w.heap[b]? = some (.cells cs T (0, 0))) (j : Nat) : w.cell? ⟨b, j, none⟩ = cs[j]? := cell_of_row w b j cs T (0, 0) h
theorem frozen_whole {w : World} {b : Nat} {cs : Array Value} {T : TypeId} (h : w.heap[b]? = some (.cells cs T (0, 0))) (j : Nat) : w.frozen? ⟨b, j, none⟩ = false := by
  simp [World.frozen?, h]
theorem heap_lt {w : World} {b : Nat} {o : Obj} (h : w.heap[b]? = some o) : b < w.heap.size := (Array.getElem?_eq_some_iff.1 h).1
theorem heap_set {w : World} {b i : Nat} {cs : Array Value} {T : TypeId} (v : Value) (h : w.heap[b]? = some (.cells cs T (0, 0))) : (w.setCell ⟨b, i, none⟩ v).heap[b]? = some (.cells (cs.setIfInBounds i v) T (0, 0)) :=
  heap_setCell_same w b i cs T v h
/-- block b has come to hold cs; nothing else that lay in w has turned -/
def Blk (b : Nat) (cs : Array Value) (T : TypeId) (w w' : World) : Prop := w'.heap[b]? = some (.cells cs T (0, 0)) ∧ w.grownBy w' (some b)
theorem Blk.start {b : Nat} {cs : Array Value} {T : TypeId} {w : World} (h : w.heap[b]? = some (.cells cs T (0, 0))) : Blk b cs T w w := ⟨h, grown_refl _ _⟩
theorem Blk.set {b : Nat} {cs : Array Value} {T : TypeId} {w w' : World} (h : Blk b cs T w w') (i : Nat) (v : Value) : Blk b (cs.setIfInBounds i v) T w (w'.setCell ⟨b, i, none⟩ v) := ⟨heap_set v h.1, grown_set h.2 v⟩
theorem Blk.drew {b : Nat} {cs : Array Value} {T : TypeId} {w w' : World} (h : Blk b cs T w w') : Blk b cs T w w'.drew := ⟨h.1, grown_drew h.2⟩
theorem Blk.alloc {b : Nat} {cs : Array Value} {T : TypeId} {w w' : World} (h : Blk b cs T w w') (o : Obj) : Blk b cs T w (w'.alloc o) := ⟨(Below.heap_alloc w' o b (heap_lt h.1)).trans h.1, grown_alloc h.2 o⟩
theorem Blk.trans {b : Nat} {cs cs' : Array Value} {T : TypeId} {w w' w'' : World} (h : Blk b cs T w w') (k : Blk b cs' T w' w'') : Blk b cs' T w w'' := ⟨k.1, grown_trans h.2 k.2⟩
theorem Blk.below {b : Nat} {cs : Array Value} {T : TypeId} {w w' w'' : World} (h : Blk b cs T w w') (k : Below w'.heap.size w' w'') : Blk b cs T w w'' := ⟨heap_below k h.1, grown_trans h.2 (grown_below k)⟩
theorem Blk.cast {b : Nat} {cs cs' : Array Value} {T : TypeId} {w w' : World} (h : Blk b cs T w w') (e : cs = cs') : Blk b cs' T w w' := e ▸ h
theorem Blk.drewN {b : Nat} {cs : Array Value} {T : TypeId} {w w' : World} (h : Blk b cs T w w') (n : Nat) : Blk b cs T w (w'.drewN n) := ⟨h.1, ⟨h.2.os, h.2.tape, h.2.output, h.2.size, h.2.block⟩⟩
end Go.Proofs.YtpfkeohaaeiaaaaGreatDoor.frm
/- For a region that draws its order, loads cells, calls what only makes memory, and stores into a block R of the call's own: what holds in every order (for go_region_held3). -/
namespace Go.Proofs.YtpfkeohaaeiaaaaGreatDoor.frm
open Go.RowKit
set_option maxRecDepth 100000
/-- what a cell holds: a name for it, so that a fact on it stands before and behind a store -/
def cur (w : World) (p : Addr) : Value := (w.cell? p).getD undef
theorem cur_of {w : World} {p : Addr} {v : Value} (h : w.cell? p = some v) : w.cell? p = some (cur w p) := by unfold cur; rw [h]; rfl
theorem cur_set {w : World} {a p : Addr} {u v : Value} (h : w.cell? p = some u) : (w.setCell a v).cell? p = some (cur (w.setCell a v) p) := by
  by_cases e : a = p
  · subst e; exact cur_of (World.cell?_setCell_same _ _ _ h)
  · exact cur_of ((World.cell?_setCell_other _ _ _ _ e).trans h)
/-- w' is W, but for block R and what is new -/
structure Held (W : World) (R : Nat) (w' : World) : Prop where
  size : W.heap.size ≤ w'.heap.size
  cellH : ∀ p : Addr, p.block < W.heap.size → p.block ≠ R → w'.cell? p = W.cell? p
  frozH : ∀ p : Addr, p.block < W.heap.size → w'.frozen? p = W.frozen? p
  curH : ∀ p : Addr, p.block < W.heap.size → (∃ v, W.cell? p = some v) → ∃ v, w'.cell? p = some v
theorem Held.refl (W : World) (R : Nat) : Held W R W := ⟨Nat.le_refl _, fun _ _ _ => rfl, fun _ _ => rfl, fun _ _ h => h⟩
theorem Held.drew {W w : World} {R : Nat} (h : Held W R w) : Held W R w.drew := ⟨h.size, h.cellH, h.frozH, h.curH⟩
theorem Held.drewN {W w : World} {R : Nat} (h : Held W R w) (n : Nat) : Held W R (w.drewN n) := ⟨h.size, h.cellH, h.frozH, h.curH⟩
theorem Held.start (W : World) (R : Nat) : Held W R W.drew := (Held.refl W R).drew
theorem Held.below {W w w1 : World} {R : Nat} (h : Held W R w) (hb : Below w.heap.size w w1) : Held W R w1 :=
  ⟨Nat.le_trans h.size hb.size, fun p hp hn => (hb.cell (p := p) (Nat.lt_of_lt_of_le hp h.size)).trans (h.cellH p hp hn), fun p hp => (hb.frozen (p := p) (Nat.lt_of_lt_of_le hp h.size)).trans (h.frozH p hp),
   fun p hp hv => by rw [hb.cell (p := p) (Nat.lt_of_lt_of_le hp h.size)]; exact h.curH p hp hv⟩
theorem Held.alloc {W w : World} {R : Nat} (h : Held W R w) (o : Obj) : Held W R (w.alloc o) := h.below ((Below.refl _ _).alloc (Nat.le_refl _) _)
theorem Held.set {W w : World} {R : Nat} (h : Held W R w) (i : Nat) (v : Value) : Held W R (w.setCell ⟨R, i, none⟩ v) :=
  ⟨by simpa using h.size, fun p hp hn => (World.cell?_setCell_far _ _ _ _ (Ne.symm hn)).trans (h.cellH p hp hn), fun p hp => (World.frozen?_setCell ..).trans (h.frozH p hp),
   fun p hp hv => by obtain ⟨u, hu⟩ := h.curH p hp hv; exact ⟨_, cur_set hu⟩⟩
theorem Held.cell {W w' : World} {R : Nat} (h : Held W R w') {b o : Nat} {v : Value} (hc : W.cell? ⟨b, o, none⟩ = some v) (hR : b ≠ R) : w'.cell? ⟨b, o, none⟩ = some v :=
  (h.cellH ⟨b, o, none⟩ (World.block_lt_of_cell? _ _ hc) hR).trans hc
theorem Held.cur {W w' : World} {R : Nat} (h : Held W R w') {b o : Nat} {v : Value} (hc : W.cell? ⟨b, o, none⟩ = some v) : w'.cell? ⟨b, o, none⟩ = some (cur w' ⟨b, o, none⟩) := by
  obtain ⟨u, hu⟩ := h.curH ⟨b, o, none⟩ (World.block_lt_of_cell? _ _ hc) ⟨v, hc⟩
  exact cur_of hu
theorem box1 (w : World) (o0 : Obj) : (w.alloc o0).heap[w.heap.size]? = some o0 ∧ Below w.heap.size w (w.alloc o0) ∧ (w.alloc o0).heap.size = w.heap.size + 1 :=
  ⟨heap_alloc_new w o0, (Below.refl _ w).alloc (Nat.le_refl _) _, World.size_alloc _ _⟩
theorem box2 (w : World) (o0 o1 : Obj) : ((w.alloc o0).alloc o1).heap[w.heap.size]? = some o0 ∧ ((w.alloc o0).alloc o1).heap[w.heap.size + 1]? = some o1 ∧
    Below w.heap.size w ((w.alloc o0).alloc o1) ∧ ((w.alloc o0).alloc o1).heap.size = w.heap.size + 1 + 1 := by
  obtain ⟨a, b, c⟩ := box1 w o0
  obtain ⟨d, e, f⟩ := box1 (w.alloc o0) o1
  rw [c] at d f
  exact ⟨(e.block _ (by omega)).trans a, d, b.trans (e.mono (by omega)), f⟩
theorem box3 (w : World) (o0 o1 o2 : Obj) : (((w.alloc o0).alloc o1).alloc o2).heap[w.heap.size]? = some o0 ∧ (((w.alloc o0).alloc o1).alloc o2).heap[w.heap.size + 1]? = some o1 ∧ (((w.alloc o0).alloc o1).alloc o2).heap[w.heap.size + 1 + 1]? = some o2 ∧
    Below w.heap.size w (((w.alloc o0).alloc o1).alloc o2) ∧ (((w.alloc o0).alloc o1).alloc o2).heap.size = w.heap.size + 1 + 1 + 1 := by
  obtain ⟨a, a', b, c⟩ := box2 w o0 o1
  obtain ⟨d, e, f⟩ := box1 ((w.alloc o0).alloc o1) o2
  rw [c] at d f
  exact ⟨(e.block _ (by omega)).trans a, (e.block _ (by omega)).trans a', d, b.trans (e.mono (by omega)), f⟩
/-- the cells of a block that is known whole -/
theorem at_whole {w : World} {b : Nat} {cs : Array Value} {T : TypeId} (h : w.heap[b]? = some (.cells cs T (0, 0))) (j : Nat) {v : Value} (hv : cs[j]? = some v) : w.cell? ⟨b, j, none⟩ = some v := (cell_whole h j).trans hv
theorem belowN {n : Nat} {w w1 : World} (h : Below n w w1) (k : Nat) : Below n w (w1.drewN k) := ⟨h.os, h.tape, h.output, h.size, h.block⟩
end Go.Proofs.YtpfkeohaaeiaaaaGreatDoor.frm
/- Maps of the call's own whose elements may be of any type: the elements are carried as they are (a reading that hands on the value itself). -/
namespace Go.Proofs.YtpfkeohaaeiaaaaGreatDoor.frm
open Go.RowKit Go.Maps
set_option maxRecDepth 100000
/-- an element reads as itself -/
def self (v : Value) : Option (DataW Value × List MemPlace) := some (.held v, [])
/-- block b is a map of at most n entries that holds D; the keys are of type k -/
def MapAt (w : World) (k : TypeId) (b n : Nat) (D : DataW Value) : Prop := w.ownsMap Tryz.prog k self b n D
theorem MapAt.made (w : World) (k : TypeId) : MapAt (w.alloc (.map #[] 0)) k w.heap.size 0 (.map []) := World.ownsMap_made _ _ _ _
theorem MapAt.lt {w : World} {k : TypeId} {b n : Nat} {D : DataW Value} (h : MapAt w k b n D) : b < w.heap.size := World.ownsMap.lt h
theorem MapAt.grown {w w' : World} {k : TypeId} {b n : Nat} {D : DataW Value} {r : Option Nat} (h : MapAt w k b n D) (hg : w.grownBy w' r) (hne : some b ≠ r) : MapAt w' k b n D := World.ownsMap.kept h hg hne
theorem MapAt.below {w w' : World} {k : TypeId} {b n : Nat} {D : DataW Value} (h : MapAt w k b n D) (hb : Below w.heap.size w w') : MapAt w' k b n D := h.grown (grown_below (r := none) hb) (by simp)
theorem MapAt.alloc {w : World} {k : TypeId} {b n : Nat} {D : DataW Value} (h : MapAt w k b n D) (o : Obj) : MapAt (w.alloc o) k b n D := World.ownsMap.alloc h o
theorem MapAt.look {w : World} {k : TypeId} {b n : Nat} {D : DataW Value} (h : MapAt w k b n D) {t e : TypeId} (K : Keyed Tryz.prog k) (ht : Tryz.prog.underlying t = some (.map k e)) {z : Value} (hz : (zeroValue e).run Tryz.prog w = .ok z w)
    {key : Value} {kl : Lit} (hkey : keyOf Tryz.prog k key = some kl) {v : Value} (hv : D.atKey kl (.held z) = .held v) :
    (Instr.lookup t (.map (some b)) key false).run Tryz.prog w = .ok v w := by
  obtain ⟨v', ps, hrun, hR⟩ := World.ownsMap.lookup h K ht hz (zd := .held z) (zp := []) rfl hkey
  rw [hv] at hR
  simp only [self, Option.some.injEq, Prod.mk.injEq, DataW.held.injEq] at hR
  rw [← hR.1]
  exact hrun
theorem MapAt.look_ok {w : World} {k : TypeId} {b n : Nat} {D : DataW Value} (h : MapAt w k b n D) {t e : TypeId} (K : Keyed Tryz.prog k) (ht : Tryz.prog.underlying t = some (.map k e)) {z : Value} (hz : (zeroValue e).run Tryz.prog w = .ok z w)
    {key : Value} {kl : Lit} (hkey : keyOf Tryz.prog k key = some kl) {v : Value} (hv : D.atKey kl (.held z) = .held v) :
    (Instr.lookup t (.map (some b)) key true).run Tryz.prog w = .ok (.tuple #[v, .bool (Maps.has D kl)]) w := by
  obtain ⟨v', ps, hrun, hR⟩ := World.ownsMap.look_ok h K ht hz (zd := .held z) (zp := []) rfl hkey
  rw [hv] at hR
  simp only [self, Option.some.injEq, Prod.mk.injEq, DataW.held.injEq] at hR
  rw [← hR.1]
  exact hrun
theorem MapAt.put {w : World} {k : TypeId} {b n : Nat} {D : DataW Value} (h : MapAt w k b n D) {t e : TypeId} (K : Keyed Tryz.prog k) (ht : Tryz.prog.underlying t = some (.map k e)) (hn : n < maxLen) {key : Value} (val : Value) {kl : Lit}
    (hkey : keyOf Tryz.prog k key = some kl) : ∃ w', (Instr.mapUpdate t (.map (some b)) key val).run Tryz.prog w = .ok () w' ∧ MapAt w' k b (n + 1) (D.put kl (.held val)) ∧ w.grownBy w' (some b) :=
  World.ownsMap.update h K ht hn hkey rfl
end Go.Proofs.YtpfkeohaaeiaaaaGreatDoor.frm
/- Law 13: pick (both), varint's class. -/
namespace Go.Proofs.YtpfkeohaaeiaaaaGreatDoor.frm
open Go.RowKit
set_option maxRecDepth 100000
def pickF (c n : Int) : Int := if c < 0 then (-(c+1)) % n else c % n
theorem pickF_range (c n : Int) (h : 1 ≤ n) : 0 ≤ pickF c n ∧ pickF c n < n := by
  unfold pickF; split
  · exact ⟨Int.emod_nonneg _ (by omega), Int.emod_lt_of_pos _ (by omega)⟩
  · exact ⟨Int.emod_nonneg _ (by omega), Int.emod_lt_of_pos _ (by omega)⟩
def cls (n : Int) : Int := if n < 0 then -1 else if n ≤ 63 then 0 else if n ≤ 16383 then 1 else if n ≤ 1073741823 then 2 else if n ≤ 4611686018427387903 then 3 else -1
theorem cidx0 (w : World) : (Instr.index 240 (.agg #[.int .i64 63, .int .i64 16383, .int .i64 1073741823, .int .i64 4611686018427387903]) (.int .i64 0)).run Tryz.prog w = .ok (.int .i64 63) w := by kernel_rfl
theorem cidx1 (w : World) : (Instr.index 240 (.agg #[.int .i64 63, .int .i64 16383, .int .i64 1073741823, .int .i64 4611686018427387903]) (.int .i64 1)).run Tryz.prog w = .ok (.int .i64 16383) w := by kernel_rfl
theorem cidx2 (w : World) : (Instr.index 240 (.agg #[.int .i64 63, .int .i64 16383, .int .i64 1073741823, .int .i64 4611686018427387903]) (.int .i64 2)).run Tryz.prog w = .ok (.int .i64 1073741823) w := by kernel_rfl
theorem cidx3 (w : World) : (Instr.index 240 (.agg #[.int .i64 63, .int .i64 16383, .int .i64 1073741823, .int .i64 4611686018427387903]) (.int .i64 3)).run Tryz.prog w = .ok (.int .i64 4611686018427387903) w := by kernel_rfl
set_option maxRecDepth 100000 in
set_option maxHeartbeats 2000000 in
theorem class_any (n : Int) (w : World) : Calls Tryz.prog 170 #[.int .i64 n] w fun e w' => e = .returned (.int .i64 (cls n)) ∧ Below w.heap.size w w' := by
  by_cases h0 : n < 0
  · have E : Hid (cls n = -1) := Lib.hid (by unfold cls; rw [if_pos h0])
    go_enter Tryz.func170, Tryz.ntmps170
    go_wp2
    go_ret
    exact ⟨by rw [E.out]; try rfl, (Below.refl _ _).alloc (Nat.le_refl _) _⟩
  · have h0' : 0 ≤ n := by omega
    have hc : n ≤ 63 ∨ (63 < n ∧ n ≤ 16383) ∨ (16383 < n ∧ n ≤ 1073741823) ∨ (1073741823 < n ∧ n ≤ 4611686018427387903) ∨ 4611686018427387903 < n := by omega
    clear h0
    have x0 := cidx0
    have x1 := cidx1
    have x2 := cidx2
    have x3 := cidx3
    rcases hc with h1 | ⟨h1, h2⟩ | ⟨h1, h2⟩ | ⟨h1, h2⟩ | h1
    · have E : Hid (cls n = 0) := Lib.hid (by unfold cls; rw [if_neg (by omega), if_pos h1])
      go_enter Tryz.func170, Tryz.ntmps170
      go_wp2
      refine wp_loop_rounds 1 ?_
      rw [rounds_succ]
      go_wp2
      go_ret
      exact ⟨by rw [E.out]; try rfl, (Below.refl _ _).alloc (Nat.le_refl _) _⟩
    · have E : Hid (cls n = 1) := Lib.hid (by unfold cls; rw [if_neg (by omega), if_neg (by omega), if_pos h2])
      have g1 : ¬ n ≤ 63 := by omega
      go_enter Tryz.func170, Tryz.ntmps170
      go_wp2
      refine wp_loop_rounds 2 ?_
      rw [rounds_succ]
      go_wp2
      rw [rounds_succ]
      go_wp2
      go_ret
      exact ⟨by rw [E.out]; try rfl, (Below.refl _ _).alloc (Nat.le_refl _) _⟩
    · have E : Hid (cls n = 2) := Lib.hid (by unfold cls; rw [if_neg (by omega), if_neg (by omega), if_neg (by omega), if_pos h2])
      have g1 : ¬ n ≤ 63 := by omega
      have g2 : ¬ n ≤ 16383 := by omega
      go_enter Tryz.func170, Tryz.ntmps170
      go_wp2
      refine wp_loop_rounds 3 ?_
      rw [rounds_succ]
      go_wp2
      rw [rounds_succ]
      go_wp2
      rw [rounds_succ]
      go_wp2
      go_ret
      exact ⟨by rw [E.out]; try rfl, (Below.refl _ _).alloc (Nat.le_refl _) _⟩
    · have E : Hid (cls n = 3) := Lib.hid (by unfold cls; rw [if_neg (by omega), if_neg (by omega), if_neg (by omega), if_neg (by omega), if_pos h2])
      have g1 : ¬ n ≤ 63 := by omega
      have g2 : ¬ n ≤ 16383 := by omega
      have g3 : ¬ n ≤ 1073741823 := by omega
      go_enter Tryz.func170, Tryz.ntmps170
      go_wp2
      refine wp_loop_rounds 4 ?_
      rw [rounds_succ]
      go_wp2
      rw [rounds_succ]
      go_wp2
      rw [rounds_succ]
      go_wp2
      rw [rounds_succ]
      go_wp2
      go_ret
      exact ⟨by rw [E.out]; try rfl, (Below.refl _ _).alloc (Nat.le_refl _) _⟩
    · have E : Hid (cls n = -1) := Lib.hid (by unfold cls; rw [if_neg (by omega), if_neg (by omega), if_neg (by omega), if_neg (by omega), if_neg (by omega)])
      have g1 : ¬ n ≤ 63 := by omega
      have g2 : ¬ n ≤ 16383 := by omega
      have g3 : ¬ n ≤ 1073741823 := by omega
      have g4 : ¬ n ≤ 4611686018427387903 := by omega
      go_enter Tryz.func170, Tryz.ntmps170
      go_wp2
      refine wp_loop_rounds 5 ?_
      rw [rounds_succ]
      go_wp2
      rw [rounds_succ]
      go_wp2
      rw [rounds_succ]
      go_wp2
      rw [rounds_succ]
      go_wp2
      rw [rounds_succ]
      go_wp2
      go_ret
      exact ⟨by rw [E.out]; try rfl, (Below.refl _ _).alloc (Nat.le_refl _) _⟩
end Go.Proofs.YtpfkeohaaeiaaaaGreatDoor.frm
/- Law 13: bytes as numbers. -/
namespace Go.Proofs.YtpfkeohaaeiaaaaGreatDoor.frm
open Go.RowKit
set_option maxRecDepth 100000
def bytesOf (s : ByteArray) : List Int := s.data.toList.map fun b => (b.toNat : Int)
def beN : List Int → Int := List.foldl (fun n b => n * 256 + b) 0
theorem beN_append (l m : List Int) : beN (l ++ m) = m.foldl (fun n b => n * 256 + b) (beN l) := by unfold beN; rw [List.foldl_append]
theorem beN_snoc (l : List Int) (x : Int) : beN (l ++ [x]) = beN l * 256 + x := by rw [beN_append]; rfl
theorem beN_from : ∀ (l : List Int) (v : Int), (∀ x ∈ l, 0 ≤ x ∧ x ≤ 255) → 0 ≤ v → v * 256 ^ l.length ≤ l.foldl (fun n b => n * 256 + b) v ∧ l.foldl (fun n b => n * 256 + b) v < (v + 1) * 256 ^ l.length := by
  intro l
  induction l with
  | nil => intro v _ hv; simp; omega
  | cons x l ih =>
    intro v h hv
    have hx := h x (by simp)
    have h2 := ih (v * 256 + x) (fun y hy => h y (by simp [hy])) (by omega)
    simp only [List.foldl_cons, List.length_cons]
    have hp : (0 : Int) < 256 ^ l.length := Int.pow_pos (by decide)
    obtain ⟨P, hP⟩ : ∃ P : Int, 256 ^ l.length = P := ⟨_, rfl⟩
    rw [Int.pow_succ, hP]
    rw [hP] at h2 hp
    clear hP
    have e1 : v * (P * 256) = v * 256 * P := by rw [Int.mul_comm P 256, ← Int.mul_assoc]
    have e2 : (v + 1) * (P * 256) = v * 256 * P + 256 * P := by rw [Int.mul_comm P 256, ← Int.mul_assoc, Int.add_mul, Int.add_mul]; simp
    have e3 : (v * 256 + x) * P = v * 256 * P + x * P := Int.add_mul ..
    have e4 : (v * 256 + x + 1) * P = v * 256 * P + x * P + P := by rw [Int.add_mul, Int.add_mul]; simp
    have e5 : 0 ≤ x * P := Int.mul_nonneg hx.1 (by omega)
    have e6 : x * P ≤ 255 * P := Int.mul_le_mul_of_nonneg_right hx.2 (by omega)
    rw [e1, e2]
    rw [e3, e4] at h2
    omega
theorem beN_bound (l : List Int) (h : ∀ x ∈ l, 0 ≤ x ∧ x ≤ 255) : 0 ≤ beN l ∧ beN l < 256 ^ l.length := by
  have := beN_from l 0 h (by decide)
  simp at this
  unfold beN
  exact this
theorem p256 {j : Nat} (h : j ≤ 7) : (256 : Int) ^ j ≤ 72057594037927936 := by
  have : j = 0 ∨ j = 1 ∨ j = 2 ∨ j = 3 ∨ j = 4 ∨ j = 5 ∨ j = 6 ∨ j = 7 := by omega
  rcases this with rfl | rfl | rfl | rfl | rfl | rfl | rfl | rfl <;> decide
theorem bytesOf_length (s : ByteArray) : (bytesOf s).length = s.size := by
  unfold bytesOf; rw [List.length_map, Array.length_toList]; rfl
theorem bytesOf_range (s : ByteArray) : ∀ x ∈ bytesOf s, 0 ≤ x ∧ x ≤ 255 := by
  intro x hx
  unfold bytesOf at hx
  obtain ⟨b, _, rfl⟩ := List.mem_map.1 hx
  have := b.toNat_lt
  omega
theorem bytesOf_at (s : ByteArray) (k : Nat) (h : k < s.size) : (bytesOf s)[k]? = some ((s[k]'h).toNat : Int) := by
  have h2 : k < s.data.toList.length := by simpa using h
  unfold bytesOf
  rw [List.getElem?_map, List.getElem?_eq_getElem h2]
  rfl
theorem u64_wrap (x : Int) (h0 : 0 ≤ x) (h1 : x < 18446744073709551616) : IntKind.u64.wrap x = x := by
  simp [IntKind.wrap, IntKind.bits, IntKind.signed]; omega
theorem or_byte (v b : Int) (h0 : 0 ≤ v) (h1 : v < 72057594037927936) (h2 : 0 ≤ b) (h3 : b ≤ 255) : bits .or .u64 (IntKind.u64.wrap (v * 256)) (IntKind.u64.wrap b) = v * 256 + b := by
  rw [u64_wrap _ (by omega) (by omega), u64_wrap _ (by omega) (by omega)]
  obtain ⟨m, rfl⟩ := Int.eq_ofNat_of_zero_le h0
  obtain ⟨n, rfl⟩ := Int.eq_ofNat_of_zero_le h2
  have e : ((m : Int) * 256) = ((m * 256 : Nat) : Int) := by simp
  rw [e, u64_or_nat _ _ (by omega) (by omega)]
  have : m * 256 ||| n = m * 256 + n := by
    have := Nat.shiftLeft_add_eq_or_of_lt (show n < 2 ^ 8 by omega) m
    rw [Nat.shiftLeft_eq] at this
    exact this.symm
  rw [this]; simp
end Go.Proofs.YtpfkeohaaeiaaaaGreatDoor.frm
/- Law 13: varint's bigEndian: its iterator's contract. -/
namespace Go.Proofs.YtpfkeohaaeiaaaaGreatDoor.frm
open Go.RowKit Go.Shelf
set_option maxRecDepth 100000
attribute [local go_sem] Oper.semAt_some
/-- the low w bytes of N, most significant first -/
def beB (w : Nat) (N : Int) : List Int := (List.range w).map fun j => N / 2 ^ (8 * (w - 1 - j)) % 256
theorem beB_len (w : Nat) (N : Int) : (beB w N).length = w := by simp [beB]
def encB (x : Int) : Array Value := #[.int .u8 x]
theorem beB_succ (w : Nat) (N : Int) (k : Nat) (h : k < w) : (beB w N).take (k + 1) = (beB w N).take k ++ [N / 2 ^ (8 * (w - 1 - k)) % 256] := by
  rw [List.take_succ_eq_append_getElem (by rw [beB_len]; exact h)]
  simp [beB]
set_option maxRecDepth 100000 in
set_option maxHeartbeats 2000000 in
theorem be_in (n : Nat) (hn : 1 ≤ n) (l B1 B2 n₀ : Nat) (N : Int) (w : Nat) (hw : w ≤ 8) (_hN0 : 0 ≤ N) (_hN1 : N < 18446744073709551616) (_hp1 : B1 < n₀) (hp2 : B2 < n₀) (J Jx : List Int → World → Prop) {m : Nat} (_hJA : AbidesFrom m J)
    (hY : ∀ pre x W, J pre W → pre.length < w → YieldAt Fence.wide (n - 1) Tryz.prog l (encB x) W fun e W' =>
      (e = .returned (.bool true) ∧ J (pre ++ [x]) W' ∧ Below n₀ W W') ∨ (e = .returned (.bool false) ∧ Jx (pre ++ [x]) W'))
    (W : World) (_hWn : n₀ ≤ W.heap.size) (hB1 : W.cell? ⟨B1, 0, none⟩ = some (.int .i64 w)) (hB2 : W.cell? ⟨B2, 0, none⟩ = some (.int .u64 N)) (h0 : J [] W) :
    CallsIn Fence.wide n Tryz.prog 176 #[.func (.yield l) #[] #[], .pointer (some ⟨B1, 0, none⟩), .pointer (some ⟨B2, 0, none⟩)] W fun e W' => (∃ v, e = .returned v) ∧
      ((∃ ys, ys = beB w N ∧ J ys W') ∨ (∃ pre, pre <+: beB w N ∧ Jx pre W')) := by
  refine callsIn_of_wp Tryz.func176 rfl trivial ?_ rfl
  simp only [Tryz.ntmps176, List.size_toArray, List.length_cons, List.length_nil, Nat.reduceAdd, Nat.reduceSub, Array.replicate_succ, Array.replicate_zero, List.push_toArray, List.append_toArray, List.nil_append, List.cons_append]
  gi_wp2
  gi_loopw [4] (fun i wr => ∃ k : Nat, k ≤ w ∧ i = .int .i64 ((w : Int) - 1 - (k : Int)) ∧ J ((beB w N).take k) wr ∧ Below n₀ W wr)
    (fun i _ => (intOf i + 1).toNat)
  case atStart => exact ⟨0, Nat.zero_le _, by simp, h0, Below.refl _ _⟩
  case round =>
    obtain ⟨k, hk, rfl, hJs, hnx⟩ := hrel
    by_cases hlt : k < w
    · have hlen : ((beB w N).take k).length < w := by rw [List.length_take, beB_len]; omega
      have hIS := Lib.hid (beB_succ w N k hlt)
      have hc2 : wr.cell? ⟨B2, 0, none⟩ = some (.int .u64 N) := by rw [hnx.cell (p := ⟨B2, 0, none⟩) hp2]; exact hB2
      have HNX := Lib.hid hnx
      have g1 : 0 ≤ (w : Int) - 1 - (k : Int) := by omega
      have g2 : (w : Int) - 1 - (k : Int) ≤ 7 := by omega
      obtain ⟨fn, tmps, assign, body, hy, hR⟩ := hY _ (N / 2 ^ (8 * (w - 1 - k)) % 256) wr hJs hlen
      simp only [encB] at hy
      clear hnx
      gi_wp2
      refine hR.mono ?_
      rintro e W3 (⟨rfl, hJ3, hk3⟩ | ⟨rfl, hJx3⟩)
      · gi_wp2
        go_roundw
        case rel => exact ⟨k + 1, by omega, by congr 1; omega, by rw [hIS.out]; exact hJ3, HNX.out.trans hk3⟩
        case measure => simp [intOf]; omega
      · gi_wp2
        refine bodyPost_ret (results_none rfl _ _ _) rfl ?_
        exact ⟨⟨_, rfl⟩, .inr ⟨_, by rw [← hIS.out]; exact List.take_prefix _ _, hJx3⟩⟩
    · obtain rfl : k = w := by omega
      clear hlt
      gi_wp2
      go_end0
      exact ⟨⟨_, rfl⟩, .inl ⟨_, by rw [List.take_of_length_le (by rw [beB_len]; exact Nat.le_refl _)], hJs⟩⟩
theorem be_stops (n : Nat) (hn : 1 ≤ n) (B1 B2 n₀ : Nat) (N : Int) (w : Nat) (hw : w ≤ 8) (hN0 : 0 ≤ N) (hN1 : N < 18446744073709551616) (W : World) (hn0 : n₀ ≤ W.heap.size) (hp1 : B1 < n₀) (hp2 : B2 < n₀)
    (hB1 : W.cell? ⟨B1, 0, none⟩ = some (.int .i64 w)) (hB2 : W.cell? ⟨B2, 0, none⟩ = some (.int .u64 N)) :
    SeqStopsK Fence.wide n Tryz.prog 176 #[.pointer (some ⟨B1, 0, none⟩), .pointer (some ⟨B2, 0, none⟩)] encB (Below n₀) (fun ys => ys = beB w N) (fun pre => pre <+: beB w N) w W := fun l J Jx W2 hW hA _ hY h0 =>
  be_in n hn l B1 B2 n₀ N w hw hN0 hN1 hp1 hp2 J Jx hA hY W2 (Nat.le_trans hn0 hW.size) ((hW.cell (p := ⟨B1, 0, none⟩) (Nat.lt_of_lt_of_le hp1 hn0)).trans hB1) ((hW.cell (p := ⟨B2, 0, none⟩) (Nat.lt_of_lt_of_le hp2 hn0)).trans hB2) h0
end Go.Proofs.YtpfkeohaaeiaaaaGreatDoor.frm
/- Law 13: varint's bigEndian, collect and Encode. -/
namespace Go.Proofs.YtpfkeohaaeiaaaaGreatDoor.frm
open Go.RowKit Go.Shelf
set_option maxRecDepth 100000
attribute [local go_sem] Oper.semAt_some
theorem cell_alloc_l {W : World} {a : Addr} {v : Value} (o : Obj) (h : W.cell? a = some v) : (W.alloc o).cell? a = some v := cell_kept h (World.grownBy_alloc W o none) (fun r e => by cases e)
theorem be_any (N : Int) (k : Nat) (w : World) : Calls Tryz.prog 172 #[.int .u64 N, .int .i64 k] w fun e w' =>
    e = .returned (.func (.func 176) #[] #[.pointer (some ⟨w.heap.size + 1, 0, none⟩), .pointer (some ⟨w.heap.size, 0, none⟩)]) ∧ w' = (w.alloc (.cells #[.int .u64 N] 210)).alloc (.cells #[.int .i64 k] 3) := by
  go_enter Tryz.func172, Tryz.ntmps172
  go_wp2
  go_ret
  exact ⟨rfl, rfl⟩
theorem info5 : (Tryz.prog.info? 5).map (fun i => (i.zero, i.size, i.bytes)) = some (some (.int .u8 0), 1, 1) := by kernel_rfl
set_option maxRecDepth 100000 in
set_option maxHeartbeats 2000000 in
theorem collect_any (N : Int) (k : Nat) (w : World) (hk : k ≤ 8) (hN0 : 0 ≤ N) (hN1 : N < 18446744073709551616) (B1 B2 : Nat) (hp1 : B1 < w.heap.size) (hp2 : B2 < w.heap.size)
    (hB1 : w.cell? ⟨B1, 0, none⟩ = some (.int .i64 k)) (hB2 : w.cell? ⟨B2, 0, none⟩ = some (.int .u64 N)) :
    Calls Tryz.prog 171 #[.func (.func 176) #[] #[.pointer (some ⟨B1, 0, none⟩), .pointer (some ⟨B2, 0, none⟩)]] w fun e w' =>
      e = .returned (.string (strOfNums (beB k N))) ∧ Below w.heap.size w w' := by
  obtain ⟨i0, hi, hz0, hz1, hz2⟩ := info_parts info5
  refine (callsIn_wide (n := 4)).1 ?_
  refine callsIn_of_wp_marks Tryz.func171 rfl trivial ?_ rfl
  simp only [Tryz.ntmps171, List.size_toArray, List.length_cons, List.length_nil, Nat.reduceAdd, Nat.reduceSub, Array.replicate_succ, Array.replicate_zero, List.push_toArray, List.append_toArray, List.nil_append, List.cons_append]
  gi_wp2
  have bO := Boxed.new w 60 (.slice none 0 0)
  have hB0 : Below w.heap.size w (w.alloc (.cells #[.slice none 0 0] 60)) := (Below.refl _ w).alloc (Nat.le_refl _) _
  have hS := be_stops (4 - 1) (by decide) B1 B2 w.heap.size N k hk hN0 hN1 (w.alloc (.cells #[.slice none 0 0] 60)) (by simp) hp1 hp2 (cell_alloc_l _ hB1) (cell_alloc_l _ hB2)
  refine wpIn_rangeFunc_ownG rfl (by decide) (gf := 176) (lb := #[.pointer (some ⟨B1, 0, none⟩), .pointer (some ⟨B2, 0, none⟩)]) rfl trivial (enters_of Tryz.func176 (by kernel_rfl) rfl)
    hS belowK_t (belowK_b (by simp)) (Below.refl _ _) (fun _ => rfl)
    (fun (pre : List Int) W => (∃ v, Boxed W w.heap.size 60 v ∧ W.ownsRow w.heap.size 5 1 v pre.length (pre.map (Value.int .u8)) ∧ True) ∧ Below w.heap.size w W)
    (fun _ _ _ => False)
    (OwnFrom.and (Own.from (holdsRow_own w.heap.size w.heap.size 60 5 1 (fun (pre : List Int) => pre.length) (fun (pre : List Int) => pre.map (Value.int .u8)) (fun _ _ => True)) _) (ownFrom_below (Nat.le_refl _) (by simp)))
    (fun _ _ _ _ _ hs _ _ => hs)
    ⟨⟨_, bO, World.ownsRow_nil _ _ _ _, trivial⟩, hB0⟩
    (fun x => { tmps := #[Value.func (Fn.func 176) #[] #[Value.pointer (some { block := B1, off := 0 }), Value.pointer (some { block := B2, off := 0 })], undef, Value.string { data := #[] }, Value.pointer (some { block := w.heap.size, off := 0 }), .int .u8 x, Value.func (Fn.func 176) #[] #[Value.pointer (some { block := B1, off := 0 }), Value.pointer (some { block := B2, off := 0 })], .int .u8 x, undef, undef, undef, undef, undef, undef], defers := [] }) ?assign ?body ?done ?stop
  case assign =>
    intro l x W K hK
    simp only [encB]
    gi_wp2
    exact hK
  case body =>
    rintro l pre x W ⟨⟨v, hv, hrow, _⟩, hB⟩ hlt
    have hc := hv.cell
    gi_wp2_with (gi_at_builtin; refine wpListIn_append_own _ rfl _ _ 60 rfl w.heap.size 5 i0 (.int .u8 0) 1 1 Tryz.underlying60 hi hz0 hz1 hz2 rfl (by decide) _ _ _ rfl (hrow.alloc _) ⟨W.heap.size, 0, none⟩ 1 1 [.int .u8 x] rfl rfl (cell_one_new _ _ _) (by simp [Value.oneCell']) (by unfold maxLen; omega) (by omega) (by have := hB.size; simp; omega) ?_; intro v' w1 hown' hgrow _; obtain ⟨g', cap', rfl⟩ := ownsRow_succ hown'; obtain ⟨hv1, hv2, hr2, hk2, hb2⟩ := hv.appended (by decide) hrow hB.size (Nat.le_refl _) hown' hgrow; have hc1 := hv1.cell; have hf1 := hv1.frozen)
    exact ⟨hk2.from _, hb2, ⟨_, hv2, by simpa using hr2, trivial⟩, hB.trans hb2⟩
  case done =>
    rintro D ys W hD rfl ⟨⟨v, hv, hrow, _⟩, hB⟩ hK
    have hc := hv.cell
    have hsz := hB.size
    rw [beB_len] at hrow
    rcases hrow.2 with ⟨rfl, h0⟩ | ⟨g, cap, cur, rfl, hb, hg, hn, hm, hcs, htake⟩
    · subst h0
      have hcv := fun (w : World) => run_convert_bytes_nil (P := Tryz.prog) w 60 5 Tryz.underlying60 Tryz.underlying5 0 0 9 Tryz.underlying9
      gi_wp2
      refine ⟨by simp, .inl ⟨_, _, rfl, run_takeDeferred hK, ?_⟩⟩
      exact ⟨_, results_tmp rfl _ _ _, rfl, hB.trans (belowK_b (w := w) (Nat.le_refl _) W D _ _ (by simp at hD; omega) hK rfl rfl)⟩
    · have hcv := run_convert_bytes_arg (P := Tryz.prog) W 60 5 Tryz.underlying60 Tryz.underlying5 g 0 k cap (beB k N) (beB_len k N) (fun i hi => by
        have := hrow.cells (g := g) rfl i (.int .u8 ((beB k N).getD i 0)) (by rw [List.getElem?_map, List.getElem?_eq_getElem (by rw [beB_len]; exact hi)]; simp [List.getD, List.getElem?_eq_getElem (show i < (beB k N).length by rw [beB_len]; exact hi)])
        rw [add_plain] at this
        exact this) 9 Tryz.underlying9
      gi_wp2
      refine ⟨by simp, .inl ⟨_, _, rfl, run_takeDeferred hK, ?_⟩⟩
      exact ⟨_, results_tmp rfl _ _ _, rfl, hB.trans (belowK_b (w := w) (Nat.le_refl _) W D _ _ (by simp at hD; omega) hK rfl rfl)⟩
  case stop =>
    rintro D c pre W _ _ h _
    exact h.elim
theorem be_then (N : Int) (k : Nat) (w1 : World) (hk : k ≤ 8) (hN0 : 0 ≤ N) (hN1 : N < 18446744073709551616) :
    Calls Tryz.prog 171 #[.func (.func 176) #[] #[.pointer (some ⟨w1.heap.size + 1, 0, none⟩), .pointer (some ⟨w1.heap.size, 0, none⟩)]] ((w1.alloc (.cells #[.int .u64 N] 210)).alloc (.cells #[.int .i64 k] 3)) fun e w' =>
      e = .returned (.string (strOfNums (beB k N))) ∧ Below w1.heap.size w1 w' := by
  have c1 : ((w1.alloc (.cells #[.int .u64 N] 210)).alloc (.cells #[.int .i64 k] 3)).cell? ⟨w1.heap.size + 1, 0, none⟩ = some (.int .i64 k) := by
    have := (Boxed.new (w1.alloc (.cells #[.int .u64 N] 210)) 3 (.int .i64 k)).cell
    rwa [World.size_alloc] at this
  refine (collect_any N k _ hk hN0 hN1 (w1.heap.size + 1) w1.heap.size (by simp) (by simp; omega) c1 (cell_alloc_l _ (Boxed.new w1 210 _).cell)).mono ?_
  rintro e w' ⟨he, hb⟩
  exact ⟨he, (((Below.refl _ w1).alloc (Nat.le_refl _) _).alloc (by simp) _).trans (hb.mono (by simp; omega))⟩
theorem or_top (n C : Nat) (c i : Nat) (hC : C = c <<< i) (h : n < 2 ^ i) : n ||| C = n + C := by
  subst hC
  have := Nat.shiftLeft_add_eq_or_of_lt h c
  rw [Nat.or_comm, ← this, Nat.add_comm]
/-- varint's encoding -/
def encV (n : Int) : List Int := if cls n < 0 then [] else beB (2 ^ (cls n).toNat) (n + cls n * 2 ^ (8 * 2 ^ (cls n).toNat - 2))
set_option maxRecDepth 100000 in
set_option maxHeartbeats 2000000 in
theorem enc_0 (n : Int) (w : World) (h : cls n = 0) (h0 : 0 ≤ n) (h1 : n ≤ 63) : Calls Tryz.prog 160 #[.int .i64 n] w fun e w' => e = .returned (.tuple #[.string (strOfNums (encV n)), .int .i64 0]) ∧ Below w.heap.size w w' := by
  have E : Hid (encV n = beB 1 (n + 0)) := Lib.hid (by unfold encV; rw [h]; rfl)
  have CL := Lib.hid (class_any n w)
  rw [h] at CL
  clear h
  have HO : bits .or .u64 n 0 = n + 0 := by
    obtain ⟨m, rfl⟩ := Int.eq_ofNat_of_zero_le h0
    have e := or_top m 0 0 6 (by decide) (by omega)
    rw [show ((0 : Int)) = ((0 : Nat) : Int) from rfl, u64_or_nat _ _ (by omega) (by omega), e]
    simp
  have BE := Lib.hid (be_any (bits .or .u64 n 0) 1)
  have CO := Lib.hid (fun w => be_then (bits .or .u64 n 0) 1 w (by decide) (by omega) (by omega))
  have HH := Lib.hid HO
  clear HO
  go_enter Tryz.func160, Tryz.ntmps160
  go_wp2_with (first | (go_at_call 170; refine CL.out.mono ?_; rintro e w1 ⟨rfl, hb⟩) | (go_at_call 172; refine (BE.out _).mono ?_; rintro e w2 ⟨rfl, rfl⟩) | (go_at_call 171; refine (CO.out _).mono ?_; rintro e w3 ⟨rfl, hb3⟩))
  go_ret2
  exact ⟨by rw [E.out, HH.out]; rfl, btrans hb hb3⟩
set_option maxRecDepth 100000 in
set_option maxHeartbeats 2000000 in
theorem enc_1 (n : Int) (w : World) (h : cls n = 1) (h0 : 0 ≤ n) (h1 : n ≤ 16383) : Calls Tryz.prog 160 #[.int .i64 n] w fun e w' => e = .returned (.tuple #[.string (strOfNums (encV n)), .int .i64 0]) ∧ Below w.heap.size w w' := by
  have E : Hid (encV n = beB 2 (n + 16384)) := Lib.hid (by unfold encV; rw [h]; rfl)
  have CL := Lib.hid (class_any n w)
  rw [h] at CL
  clear h
  have HO : bits .or .u64 n 16384 = n + 16384 := by
    obtain ⟨m, rfl⟩ := Int.eq_ofNat_of_zero_le h0
    have e := or_top m 16384 1 14 (by decide) (by omega)
    rw [show ((16384 : Int)) = ((16384 : Nat) : Int) from rfl, u64_or_nat _ _ (by omega) (by omega), e]
    simp
  have BE := Lib.hid (be_any (bits .or .u64 n 16384) 2)
  have CO := Lib.hid (fun w => be_then (bits .or .u64 n 16384) 2 w (by decide) (by omega) (by omega))
  have HH := Lib.hid HO
  clear HO
  go_enter Tryz.func160, Tryz.ntmps160
  go_wp2_with (first | (go_at_call 170; refine CL.out.mono ?_; rintro e w1 ⟨rfl, hb⟩) | (go_at_call 172; refine (BE.out _).mono ?_; rintro e w2 ⟨rfl, rfl⟩) | (go_at_call 171; refine (CO.out _).mono ?_; rintro e w3 ⟨rfl, hb3⟩))
  go_ret2
  exact ⟨by rw [E.out, HH.out]; rfl, btrans hb hb3⟩
set_option maxRecDepth 100000 in
set_option maxHeartbeats 2000000 in
theorem enc_2 (n : Int) (w : World) (h : cls n = 2) (h0 : 0 ≤ n) (h1 : n ≤ 1073741823) : Calls Tryz.prog 160 #[.int .i64 n] w fun e w' => e = .returned (.tuple #[.string (strOfNums (encV n)), .int .i64 0]) ∧ Below w.heap.size w w' := by
  have E : Hid (encV n = beB 4 (n + 2147483648)) := Lib.hid (by unfold encV; rw [h]; rfl)
  have CL := Lib.hid (class_any n w)
  rw [h] at CL
  clear h
  have HO : bits .or .u64 n 2147483648 = n + 2147483648 := by
    obtain ⟨m, rfl⟩ := Int.eq_ofNat_of_zero_le h0
    have e := or_top m 2147483648 2 30 (by decide) (by omega)
    rw [show ((2147483648 : Int)) = ((2147483648 : Nat) : Int) from rfl, u64_or_nat _ _ (by omega) (by omega), e]
    simp
  have BE := Lib.hid (be_any (bits .or .u64 n 2147483648) 4)
  have CO := Lib.hid (fun w => be_then (bits .or .u64 n 2147483648) 4 w (by decide) (by omega) (by omega))
  have HH := Lib.hid HO
  clear HO
  go_enter Tryz.func160, Tryz.ntmps160
  go_wp2_with (first | (go_at_call 170; refine CL.out.mono ?_; rintro e w1 ⟨rfl, hb⟩) | (go_at_call 172; refine (BE.out _).mono ?_; rintro e w2 ⟨rfl, rfl⟩) | (go_at_call 171; refine (CO.out _).mono ?_; rintro e w3 ⟨rfl, hb3⟩))
  go_ret2
  exact ⟨by rw [E.out, HH.out]; rfl, btrans hb hb3⟩
set_option maxRecDepth 100000 in
set_option maxHeartbeats 2000000 in
theorem enc_3 (n : Int) (w : World) (h : cls n = 3) (h0 : 0 ≤ n) (h1 : n ≤ 4611686018427387903) : Calls Tryz.prog 160 #[.int .i64 n] w fun e w' => e = .returned (.tuple #[.string (strOfNums (encV n)), .int .i64 0]) ∧ Below w.heap.size w w' := by
  have E : Hid (encV n = beB 8 (n + 13835058055282163712)) := Lib.hid (by unfold encV; rw [h]; rfl)
  have CL := Lib.hid (class_any n w)
  rw [h] at CL
  clear h
  have HO : bits .or .u64 n 13835058055282163712 = n + 13835058055282163712 := by
    obtain ⟨m, rfl⟩ := Int.eq_ofNat_of_zero_le h0
    have e := or_top m 13835058055282163712 3 62 (by decide) (by omega)
    rw [show ((13835058055282163712 : Int)) = ((13835058055282163712 : Nat) : Int) from rfl, u64_or_nat _ _ (by omega) (by omega), e]
    simp
  have BE := Lib.hid (be_any (bits .or .u64 n 13835058055282163712) 8)
  have CO := Lib.hid (fun w => be_then (bits .or .u64 n 13835058055282163712) 8 w (by decide) (by omega) (by omega))
  have HH := Lib.hid HO
  clear HO
  go_enter Tryz.func160, Tryz.ntmps160
  go_wp2_with (first | (go_at_call 170; refine CL.out.mono ?_; rintro e w1 ⟨rfl, hb⟩) | (go_at_call 172; refine (BE.out _).mono ?_; rintro e w2 ⟨rfl, rfl⟩) | (go_at_call 171; refine (CO.out _).mono ?_; rintro e w3 ⟨rfl, hb3⟩))
  go_ret2
  exact ⟨by rw [E.out, HH.out]; rfl, btrans hb hb3⟩
theorem enc_any (n : Int) (w : World) (h : 0 ≤ cls n) : Calls Tryz.prog 160 #[.int .i64 n] w fun e w' => e = .returned (.tuple #[.string (strOfNums (encV n)), .int .i64 0]) ∧ Below w.heap.size w w' := by
  by_cases h0 : n < 0
  · unfold cls at h; rw [if_pos h0] at h; omega
  by_cases h1 : n ≤ 63
  · exact enc_0 n w (by unfold cls; rw [if_neg h0, if_pos h1]) (by omega) h1
  by_cases h2 : n ≤ 16383
  · exact enc_1 n w (by unfold cls; rw [if_neg h0, if_neg h1, if_pos h2]) (by omega) h2
  by_cases h3 : n ≤ 1073741823
  · exact enc_2 n w (by unfold cls; rw [if_neg h0, if_neg h1, if_neg h2, if_pos h3]) (by omega) h3
  by_cases h4 : n ≤ 4611686018427387903
  · exact enc_3 n w (by unfold cls; rw [if_neg h0, if_neg h1, if_neg h2, if_neg h3, if_pos h4]) (by omega) h4
  · unfold cls at h; rw [if_neg h0, if_neg h1, if_neg h2, if_neg h3, if_neg h4] at h; omega
end Go.Proofs.YtpfkeohaaeiaaaaGreatDoor.frm
/- Law 13: the makers of a frame's parts. -/
namespace Go.Proofs.YtpfkeohaaeiaaaaGreatDoor.frm
open Go.RowKit
set_option maxRecDepth 100000
def fnv (k : Nat) : Value := .func (.func k) #[] #[]
/-- what integer(m, field k) hands back, its boxes at n and n + 1 -/
def intP (n : Nat) : Array Value := #[.func (.func 123) #[] #[.pointer (some ⟨n + 1, 0, none⟩), .pointer (some ⟨n, 0, none⟩)], .func (.func 125) #[] #[.pointer (some ⟨n + 1, 0, none⟩)], .func (.func 127) #[] #[.pointer (some ⟨n + 1, 0, none⟩)]]
def txtP (n : Nat) : Array Value := #[.func (.func 128) #[] #[.pointer (some ⟨n, 0, none⟩), .pointer (some ⟨n + 1, 0, none⟩)], fnv 129, fnv 131]
def fixP (n : Nat) : Array Value := #[.func (.func 132) #[] #[.pointer (some ⟨n + 1, 0, none⟩), .pointer (some ⟨n, 0, none⟩)], .func (.func 133) #[] #[.pointer (some ⟨n, 0, none⟩), .pointer (some ⟨n + 1, 0, none⟩)], .func (.func 134) #[] #[.pointer (some ⟨n + 1, 0, none⟩)]]
def uniP : Array Value := #[fnv 137, fnv 138, fnv 139]
def retP (n : Nat) : Array Value := #[fnv 141, .func (.func 125) #[] #[.pointer (some ⟨n + 1, 0, none⟩)], .func (.func 127) #[] #[.pointer (some ⟨n + 1, 0, none⟩)]]
set_option maxRecDepth 100000 in
set_option maxHeartbeats 2000000 in
theorem integer_any (m : Int) (k : Nat) (w : World) : Calls Tryz.prog 94 #[.int .i64 m, fnv k] w fun e w' =>
    e = .returned (.agg (intP w.heap.size)) ∧ w'.heap[w.heap.size]? = some (.cells #[.int .i64 m] 3 (0, 0)) ∧ w'.heap[w.heap.size + 1]? = some (.cells #[fnv k] 163 (0, 0)) ∧ Below w.heap.size w w' := by
  have F := Lib.hid (fun o => box3 w (.cells #[.int .i64 m] 3) (.cells #[fnv k] 163) o)
  unfold fnv intP at *
  go_enter Tryz.func94, Tryz.ntmps94
  go_wp2
  refine bodyPost_ret (v := .agg (intP w.heap.size)) (by simp [results, Tryz.results94, go_sem, intP]) rfl ⟨rfl, (F.out _).1, (F.out _).2.1, (F.out _).2.2.2.1⟩
set_option maxRecDepth 100000 in
set_option maxHeartbeats 2000000 in
theorem text_any (l m : Int) (w : World) : Calls Tryz.prog 102 #[.int .i64 l, .int .i64 m] w fun e w' =>
    e = .returned (.agg (txtP w.heap.size)) ∧ w'.heap[w.heap.size]? = some (.cells #[.int .i64 l] 3 (0, 0)) ∧ w'.heap[w.heap.size + 1]? = some (.cells #[.int .i64 m] 3 (0, 0)) ∧ Below w.heap.size w w' := by
  have F := Lib.hid (fun o => box3 w (.cells #[.int .i64 l] 3) (.cells #[.int .i64 m] 3) o)
  unfold txtP fnv at *
  go_enter Tryz.func102, Tryz.ntmps102
  go_wp2
  refine bodyPost_ret (v := .agg (txtP w.heap.size)) (by simp [results, Tryz.results102, go_sem, txtP, fnv]) rfl ⟨rfl, (F.out _).1, (F.out _).2.1, (F.out _).2.2.2.1⟩
set_option maxRecDepth 100000 in
set_option maxHeartbeats 2000000 in
theorem fixed_any (m : Int) (k : Nat) (w : World) : Calls Tryz.prog 103 #[.int .i64 m, fnv k] w fun e w' =>
    e = .returned (.agg (fixP w.heap.size)) ∧ w'.heap[w.heap.size]? = some (.cells #[.int .i64 m] 3 (0, 0)) ∧ w'.heap[w.heap.size + 1]? = some (.cells #[fnv k] 167 (0, 0)) ∧ Below w.heap.size w w' := by
  have F := Lib.hid (fun o => box3 w (.cells #[.int .i64 m] 3) (.cells #[fnv k] 167) o)
  unfold fnv fixP at *
  go_enter Tryz.func103, Tryz.ntmps103
  go_wp2
  refine bodyPost_ret (v := .agg (fixP w.heap.size)) (by simp [results, Tryz.results103, go_sem, fixP]) rfl ⟨rfl, (F.out _).1, (F.out _).2.1, (F.out _).2.2.2.1⟩
set_option maxRecDepth 100000 in
set_option maxHeartbeats 2000000 in
theorem uni_any (w : World) : Calls Tryz.prog 109 #[] w fun e w' => e = .returned (.agg uniP) ∧ Below w.heap.size w w' := by
  unfold uniP fnv
  go_enter Tryz.func109, Tryz.ntmps109
  go_wp2
  refine bodyPost_ret (v := .agg uniP) (by simp [results, Tryz.results109, go_sem, uniP, fnv]) rfl ⟨rfl, (Below.refl _ _).alloc (Nat.le_refl _) _⟩
end Go.Proofs.YtpfkeohaaeiaaaaGreatDoor.frm
/- A call's own new blocks, listed: what they hold, whatever is made or written elsewhere; a map of the call's own beside them. -/
namespace Go.Proofs.YtpfkeohaaeiaaaaGreatDoor.frm
open Go.RowKit
set_option maxRecDepth 100000
def isC : Obj → Bool
  | .cells _ _ _ => true
  | _ => false
/-- the blocks of the list hold what the list says; nothing that lay in w0 has turned -/
structure Os (w0 : World) (os : List (Nat × Obj)) (w : World) : Prop where
  bel : Below w0.heap.size w0 w
  ho : ∀ x ∈ os, w.heap[x.1]? = some x.2 ∧ isC x.2 = true
theorem Os.start (w0 : World) : Os w0 [] w0 := ⟨Below.refl _ _, fun x hx => by cases hx⟩
variable {w0 w w' : World} {os : List (Nat × Obj)}
theorem Os.below (h : Os w0 os w) (hb : Below w.heap.size w w') : Os w0 os w' := ⟨btrans h.bel hb, fun x hx => ⟨heap_below hb (h.ho x hx).1, (h.ho x hx).2⟩⟩
theorem Os.drewN (h : Os w0 os w) (n : Nat) : Os w0 os (w.drewN n) := ⟨belowN h.bel n, h.ho⟩
theorem Os.drew (h : Os w0 os w) : Os w0 os w.drew := ⟨h.bel.drew, h.ho⟩
theorem Os.add (h : Os w0 os w) {k : Nat} {o : Obj} (hk : w.heap[k]? = some o) (hc : isC o = true) : Os w0 ((k, o) :: os) w :=
  by
  refine ⟨h.bel, fun x hx => ?_⟩
  rcases List.mem_cons.1 hx with rfl | hx
  · exact ⟨hk, hc⟩
  · exact h.ho x hx
theorem Os.alloc (h : Os w0 os w) (o : Obj) (hc : isC o = true) : Os w0 ((w.heap.size, o) :: os) (w.alloc o) :=
  (h.below ((Below.refl _ w).alloc (Nat.le_refl _) o)).add (heap_alloc_new w o) hc
theorem Os.at (h : Os w0 os w) {k : Nat} {o : Obj} (hx : (k, o) ∈ os) : w.heap[k]? = some o := (h.ho _ hx).1
theorem Os.sub {os' : List (Nat × Obj)} (h : Os w0 os w) (hs : ∀ x ∈ os', x ∈ os) : Os w0 os' w := ⟨h.bel, fun x hx => h.ho x (hs x hx)⟩
theorem MapAt.no_cells {k : TypeId} {b n : Nat} {D : DataW Value} (h : MapAt w k b n D) {o : Obj} (ho : w.heap[b]? = some o) : isC o = false := by
  obtain ⟨es, clock, hb, _⟩ := h
  rw [hb] at ho
  cases ho
  rfl
theorem Os.insert (h : Os w0 os w) {k : TypeId} {b n : Nat} {D : DataW Value} (hm : MapAt w k b n D) (hb : w0.heap.size ≤ b) (hg : w.grownBy w' (some b)) : Os w0 os w' :=
  ⟨below_grown h.bel hg hb, fun x hx => ⟨heap_grown hg (h.ho x hx).1 (fun e => by have := hm.no_cells (e ▸ (h.ho x hx).1); rw [(h.ho x hx).2] at this; cases this), (h.ho x hx).2⟩⟩
end Go.Proofs.YtpfkeohaaeiaaaaGreatDoor.frm
/- Law 13: a frame's parts: the map of all of them. -/
namespace Go.Proofs.YtpfkeohaaeiaaaaGreatDoor.frm
open Go.RowKit
set_option maxRecDepth 100000
theorem size141 : (Tryz.prog.info? 141).map (·.size) = some 3 := by kernel_rfl
theorem int_ex (m : Int) (k : Nat) (w : World) : Calls Tryz.prog 94 #[.int .i64 m, .func (.func k) #[] #[]] w fun e w' => ∃ n,
    e = .returned (.agg #[.func (.func 123) #[] #[.pointer (some ⟨n + 1, 0, none⟩), .pointer (some ⟨n, 0, none⟩)], .func (.func 125) #[] #[.pointer (some ⟨n + 1, 0, none⟩)], .func (.func 127) #[] #[.pointer (some ⟨n + 1, 0, none⟩)]]) ∧
    w'.heap[n]? = some (.cells #[.int .i64 m] 3 (0, 0)) ∧ w'.heap[n + 1]? = some (.cells #[.func (.func k) #[] #[]] 163 (0, 0)) ∧ Below w.heap.size w w' := (integer_any m k w).mono fun _ _ h => ⟨_, h.1, h.2⟩
theorem txt_ex (l m : Int) (w : World) : Calls Tryz.prog 102 #[.int .i64 l, .int .i64 m] w fun e w' => ∃ n,
    e = .returned (.agg #[.func (.func 128) #[] #[.pointer (some ⟨n, 0, none⟩), .pointer (some ⟨n + 1, 0, none⟩)], .func (.func 129) #[] #[], .func (.func 131) #[] #[]]) ∧
    w'.heap[n]? = some (.cells #[.int .i64 l] 3 (0, 0)) ∧ w'.heap[n + 1]? = some (.cells #[.int .i64 m] 3 (0, 0)) ∧ Below w.heap.size w w' := (text_any l m w).mono fun _ _ h => ⟨_, h.1, h.2⟩
theorem fix_ex (m : Int) (k : Nat) (w : World) : Calls Tryz.prog 103 #[.int .i64 m, .func (.func k) #[] #[]] w fun e w' => ∃ n,
    e = .returned (.agg #[.func (.func 132) #[] #[.pointer (some ⟨n + 1, 0, none⟩), .pointer (some ⟨n, 0, none⟩)], .func (.func 133) #[] #[.pointer (some ⟨n, 0, none⟩), .pointer (some ⟨n + 1, 0, none⟩)], .func (.func 134) #[] #[.pointer (some ⟨n + 1, 0, none⟩)]]) ∧
    w'.heap[n]? = some (.cells #[.int .i64 m] 3 (0, 0)) ∧ w'.heap[n + 1]? = some (.cells #[.func (.func k) #[] #[]] 167 (0, 0)) ∧ Below w.heap.size w w' := (fixed_any m k w).mono fun _ _ h => ⟨_, h.1, h.2⟩
theorem uni_ex (w : World) : Calls Tryz.prog 109 #[] w fun e w' => e = .returned (.agg #[.func (.func 137) #[] #[], .func (.func 138) #[] #[], .func (.func 139) #[] #[]]) ∧ Below w.heap.size w w' := uni_any w
set_option maxRecDepth 100000 in
set_option maxHeartbeats 2000000 in
theorem ret_ex (w : World) : Calls Tryz.prog 110 #[] w fun e w' => ∃ n,
    e = .returned (.agg #[.func (.func 141) #[] #[], .func (.func 125) #[] #[.pointer (some ⟨n + 1, 0, none⟩)], .func (.func 127) #[] #[.pointer (some ⟨n + 1, 0, none⟩)]]) ∧
    w'.heap[n]? = some (.cells #[.int .i64 4611686018427387903] 3 (0, 0)) ∧ w'.heap[n + 1]? = some (.cells #[.func (.func 140) #[] #[]] 163 (0, 0)) ∧ Below w.heap.size w w' := by
  go_enter Tryz.func110, Tryz.ntmps110
  go_wp2_with fail
  refine (int_ex _ _ _).mono ?_
  rintro e w1 ⟨n, rfl, h0, h1, hb⟩
  have hz : w.heap.size < w1.heap.size := Nat.lt_of_lt_of_le (by simp) hb.size
  have hR := heap_below hb (heap_alloc_new w _)
  have r0 := at_whole hR 0 rfl
  have r1 := at_whole hR 1 rfl
  have r2 := at_whole hR 2 rfl
  have f0 := frozen_whole hR 0
  have f1 := frozen_whole hR 1
  have f2 := frozen_whole hR 2
  simp only [List.getElem_toArray, List.getElem_cons_zero, List.getElem_cons_succ] at r0 r1 r2
  have G := Lib.hid (And.intro h0 (And.intro h1 (And.intro hb hR)))
  clear h0 h1 hb hR
  go_wp2
  obtain ⟨h0, h1, hb, hR⟩ := G.out
  have hw : Below w.heap.size w w1 := ((Below.refl _ w).alloc (Nat.le_refl _) _).trans (hb.mono (by simp))
  have e0 : n ≠ w.heap.size := fun e => by rw [e, hR] at h0; cases h0
  have e1 : n + 1 ≠ w.heap.size := fun e => by rw [e, hR] at h1; cases h1
  have B := ((((Blk.start hR).set 0 (.func (.func 141) #[] #[])).set 1 (.func (.func 125) #[] #[.pointer (some ⟨n + 1, 0, none⟩)])).set 2 (.func (.func 127) #[] #[.pointer (some ⟨n + 1, 0, none⟩)])).alloc (.cells #[.func (.func 141) #[] #[], .func (.func 125) #[] #[.pointer (some ⟨n + 1, 0, none⟩)], .func (.func 127) #[] #[.pointer (some ⟨n + 1, 0, none⟩)]] 141)
  generalize World.alloc (World.setCell _ _ _) _ = W' at B ⊢
  have g := B.2
  have c0 := at_whole B.1 0 rfl
  have c1 := at_whole B.1 1 rfl
  have c2 := at_whole B.1 2 rfl
  simp only [List.getElem_toArray, List.getElem_cons_zero, List.getElem_cons_succ, List.setIfInBounds_toArray, List.set_cons_zero, List.set_cons_succ] at c0 c1 c2
  refine bodyPost_ret (v := .agg #[.func (.func 141) #[] #[], .func (.func 125) #[] #[.pointer (some ⟨n + 1, 0, none⟩)], .func (.func 127) #[] #[.pointer (some ⟨n + 1, 0, none⟩)]]) (by simp [results, Tryz.results110, go_sem, c0, c1, c2]) rfl ⟨n, rfl, heap_grown g h0 e0, heap_grown g h1 e1, below_grown hw g (Nat.le_refl _)⟩
end Go.Proofs.YtpfkeohaaeiaaaaGreatDoor.frm
/- A region that draws its order, by an invariant: it holds at the start and behind whatever operation may come up; then it holds behind the whole, in every order. -/
namespace Go.Proofs.YtpfkeohaaeiaaaaGreatDoor.frm
open Go.RowKit
set_option maxRecDepth 100000
/-- every operation waits only for elder ones (an edge that does not bind in every order is no waiting) -/
def upward (ops : Array Oper) : Bool := (List.range ops.size).all fun i => ((ops[i]?).map (·.after.all fun e => !Region.binds .any e || decide (e.on < i))).getD true
section
variable {P : Program} {ops : Array Oper} {Q : Exit → Act → World → Prop}
theorem getD_is {l : Array Bool} {i : Nat} (h : i < l.size) : l.getD i true = l.getD i false := by simp [Array.getD, h]
theorem mem_ready {l : Array Bool} {i : Nat} : i ∈ Region.ready .any ops l ↔ ∃ o, ops[i]? = some o ∧ l.getD i true = false ∧ ∀ e ∈ o.after, Region.binds .any e = true → l.getD e.on false = true := by
  unfold Region.ready
  rw [List.mem_filter, List.mem_range]
  constructor
  · rintro ⟨hi, h⟩
    rw [Array.getElem?_eq_getElem hi] at h ⊢
    simp only [Bool.and_eq_true, Option.map_some, Option.getD_some, Array.all_eq_true_iff_forall_mem, Bool.or_eq_true, Bool.not_eq_true'] at h
    exact ⟨_, rfl, h.1, fun e he hb => (h.2 e he).resolve_left (by simp [hb])⟩
  · rintro ⟨o, ho, h1, h2⟩
    refine ⟨(Array.getElem?_eq_some_iff.1 ho).1, ?_⟩
    rw [ho]
    simp only [Bool.and_eq_true, Option.map_some, Option.getD_some, Array.all_eq_true_iff_forall_mem, Bool.or_eq_true, Bool.not_eq_true']
    exact ⟨h1, fun e he => by
      cases hb : Region.binds .any e with
      | false => exact .inl rfl
      | true => exact .inr (h2 e he hb)⟩
theorem all_listed {l : Array Bool} (hz : l.size = ops.size) (hu : upward ops = true) (hr : Region.ready .any ops l = []) : ∀ i, i < ops.size → l.getD i false = true := by
  intro i
  induction i using Nat.strongRecOn with
  | ind i ih =>
    intro hi
    cases hl : l.getD i false with
    | true => rfl
    | false =>
      have ho : ops[i]? = some ops[i] := Array.getElem?_eq_getElem hi
      have hup : ∀ e ∈ ops[i].after, Region.binds .any e = true → e.on < i := by
        have := List.all_eq_true.1 hu i (List.mem_range.2 hi)
        rw [ho] at this
        simp only [Option.map_some, Option.getD_some, Array.all_eq_true_iff_forall_mem, Bool.or_eq_true, Bool.not_eq_true', decide_eq_true_eq] at this
        exact fun e he hb => (this e he).resolve_left (by simp [hb])
      have : i ∈ Region.ready .any ops l := mem_ready.2 ⟨_, ho, by rw [getD_is (by omega)]; exact hl, fun e he hb => ih _ (hup e he hb) (Nat.lt_trans (hup e he hb) hi)⟩
      rw [hr] at this
      cases this
def left (n : Nat) (l : Array Bool) : Nat := (List.range n).countP fun j => !l.getD j true
theorem countP_lt {p q : Nat → Bool} {i : Nat} : ∀ {l : List Nat}, i ∈ l → (∀ j, q j = true → p j = true) → p i = true → q i = false → l.countP q < l.countP p
  | [], h, _, _, _ => by cases h
  | x :: l, h, hpq, hp, hq => by
    have hle : l.countP q ≤ l.countP p := List.countP_mono_left (fun j _ => hpq j)
    rcases List.mem_cons.1 h with rfl | h
    · rw [List.countP_cons_of_neg (by simp [hq]), List.countP_cons_of_pos hp]; omega
    · have := countP_lt h hpq hp hq
      rw [List.countP_cons, List.countP_cons]
      have : (if q x = true then 1 else 0) ≤ (if p x = true then 1 else 0) := by
        by_cases hx : q x = true
        · simp [hx, hpq x hx]
        · simp [hx]
      omega
theorem left_set {n i : Nat} {l : Array Bool} (hi : i < n) (hz : l.size = n) (hl : l.getD i true = false) : left n (l.setIfInBounds i true) < left n l := by
  unfold left
  refine countP_lt (i := i) (List.mem_range.2 hi) (fun j hj => ?_) (by simp [hl]) (by simp [Array.getD, hz, hi])
  by_cases e : j = i
  · subst e; simp [hl]
  · by_cases hj2 : j < l.size
    · simpa [Array.getD, hj2, Array.getElem_setIfInBounds, Ne.symm e] using hj
    · simp [Array.getD, hj2] at hj
theorem wpAny_inv (I : (Nat → Bool) → Act → World → Prop) (hu : upward ops = true)
    (hs : ∀ (L : Nat → Bool) a w i o, ops[i]? = some o → L i = false → (∀ e ∈ o.after, Region.binds .any e = true → L e.on = true) → I L a w → wpOp P ops Q i (I (fun j => j == i || L j)) a w)
    (he : ∀ L a w, (∀ i, i < ops.size → L i = true) → I L a w → Q .normal a w) :
    ∀ (fuel : Nat) (l : Array Bool) a w, l.size = ops.size → left ops.size l ≤ fuel → I (fun j => l.getD j false) a w → wpAny P .any ops Q fuel l a w := by
  intro fuel
  induction fuel with
  | zero =>
    intro l a w hz hf hI
    have hr : Region.ready .any ops l = [] := by
      rw [List.eq_nil_iff_forall_not_mem]
      intro i hi
      obtain ⟨o, ho, h1, _⟩ := mem_ready.1 hi
      have := left_set (Array.getElem?_eq_some_iff.1 ho).1 hz h1
      omega
    exact ⟨hr, he _ a w (all_listed hz hu hr) hI⟩
  | succ fuel ih =>
    intro l a w hz hf hI
    refine ⟨fun hr => he _ a w (all_listed hz hu hr) hI, fun i hi => ?_⟩
    obtain ⟨o, ho, h1, h2⟩ := mem_ready.1 hi
    have hlt := (Array.getElem?_eq_some_iff.1 ho).1
    have hL : l.getD i false = false := by rw [← getD_is (by omega)]; exact h1
    have hd := left_set hlt hz h1
    refine wpOp_mono (fun a' w' hI' => ih _ a' w' (by simpa using hz) (by omega) ?_) (hs _ a w i o ho hL h2 hI)
    have e : (fun j => (l.setIfInBounds i true).getD j false) = fun j => j == i || l.getD j false := by
      funext j
      by_cases e : j = i
      · subst e; simp [Array.getD, hz, hlt]
      · by_cases hj : j < l.size
        · simp [Array.getD, hj, Ne.symm e, e]
        · simp [Array.getD, hj, e]
    rw [e]
    exact hI'
/-- **the law** -/
theorem wp_region_inv {id : Nat} {a : Act} {w : World} (hm : P.follows .mixedOrders = true) (hu : upward ops = true) (I : (Nat → Bool) → Act → World → Prop) (h0 : I (fun _ => false) a w.drew)
    (hs : ∀ (L : Nat → Bool) a w i o, ops[i]? = some o → L i = false → (∀ e ∈ o.after, Region.binds .any e = true → L e.on = true) → I L a w → wpOp P ops Q i (I (fun j => j == i || L j)) a w)
    (he : ∀ L a w, (∀ i, i < ops.size → L i = true) → I L a w → Q .normal a w) : (Code.region id ops true).wp P Q a w := by
  refine wp_region_any hm (wpAny_inv I hu hs he _ _ _ _ (by simp) ?_ ?_)
  · refine Nat.le_trans List.countP_le_length (by simp)
  · have e : (fun j => (Array.replicate ops.size false).getD j false) = fun _ => false := by
      funext j
      by_cases hj : j < ops.size <;> simp [Array.getD, hj]
    rw [e]
    exact h0
end
end Go.Proofs.YtpfkeohaaeiaaaaGreatDoor.frm
