/- Texts CgBase CgObj CgA CgC CgM CgB of this claim, one behind the other. -/
import Derived.WalkKit
import Derived.ProofKit
import Derived.OpenShut
import Derived.Below
import Derived.ChangeSame
import Derived.Lib.Hide
import Derived.Handy
import Derived.ChangeBook
import Derived.ChangeStays
import Derived.ChangeSlices
import Derived.Test.YtpfkeohaaeiaaaaGreatDoorProg
import Derived.Laws.Rows
import Derived.Laws.AppendOwn
import Derived.Deep.Quiet
import Derived.Deep.RegionHeld3
import Derived.BigQuiet
import Derived.Deep.QuietTactic
import Derived.StillTailTactics
import Derived.BigGuardPart
import Derived.Maps.Own
import Derived.MapKept
/- Small lemmas on worlds that every text of this seat uses: what lies below a heap's size stays, and the row's last step from 'Below' alone. -/
namespace Go.Proofs.YtpfkeohaaeiaaaaGreatDoor.cgn
open Go.RowKit Go.WideShapes Go.ChangeShapes
set_option maxRecDepth 100000
theorem btrans {a b c : World} (h : Below a.heap.size a b) (k : Below b.heap.size b c) : Below a.heap.size a c := h.trans (k.mono h.size)
section
variable {H : Type} {enc : TypeId × Value → H} {P : Program}
theorem post_of_below {f : Func} {s : ChangeSpec} {apart fresh handsOn again : Bool} {W W' : World} {args : Array Value} {v : Value} {ds gs : List (DataW H)} {before pa pv : List MemPlace}
    (hW : DataW.Whole enc P f.params.toList s.vars apart W args.toList ds gs before)
    (hres : ∀ (b : Nat) (sp : Nat → Bool) (hd : Bool), DataW.TrodAll enc P W' b sp hd f.resultTypes.toList (v.resultList f.resultTypes.size) (s.fn H (ds ++ gs)).results [])
    (hargs : ∀ sp : Nat → Bool, (∀ p ∈ before, sp p.block = true) → DataW.TrodAll enc P W' 0 sp true f.params.toList args.toList (s.fn H (ds ++ gs)).args pa)
    (hvars : ∀ sp : Nat → Bool, (∀ p ∈ before, sp p.block = true) → DataW.TrodVars enc P W' sp s.vars (s.fn H (ds ++ gs)).vars pv)
    (hps : before = pa ++ pv) (hb : Below W.heap.size W W')
    (hok : ∀ (j : Nat) (t : TypeId) (r : Value), f.resultTypes[j]? = some t → (v.resultList f.resultTypes.size)[j]? = some r → Value.okWide P W' .any 0 t r) :
    s.post enc P f apart fresh handsOn again W args v W' := by
  have hlt : ∀ p ∈ before, p.block < W.heap.size := fun p hp => hW.lt p hp
  have hold : ∀ p ∈ before, (fun b => decide (b < W.heap.size)) p.block = true := fun p hp => by simpa using hlt p hp
  refine ⟨ds, gs, before, [], pa, pv, hW, hres _ _ _, hargs _ hold, hvars _ hold, World.keptBut_mono (fun p hp => ⟨hp, ?_⟩) (hb.frame (· ∈ before)), fun _ => ?_⟩
  · rw [hps, List.mem_append] at hp
    exact Or.inr hp
  · obtain ⟨_, _, _, _, _, hz, hn⟩ := hW
    refine ⟨hok, _, _, ([] ++ pa) ++ pv, ⟨[] ++ pa, pv, trodAll_append (hargs _ (fun _ _ => rfl)) (hres _ _ _), hvars _ (fun _ _ => rfl), rfl, ?_, ?_⟩, ?_⟩
    · intro b off hp
      have hin : MemPlace.cell b off ∈ before := by rw [hps]; simpa using hp
      rw [hb.frozen (hlt _ hin)]
      exact hz b off hin
    · intro ha
      have := hn ha
      rw [hps] at this
      simpa using this
    · intro p hp _
      rw [hps]
      simpa using hp

theorem laidOut' : laidOutB Tryz.prog = true := by kernel_rfl
/-- an argument reads again behind a call that leaves alone what lay below -/
theorem again1 {W W' : World} {t : TypeId} {v : Value} {d : DataW H} {p : List MemPlace} (hr : Tryz.prog.readableRec t = true) (hrow : decide (t < Tryz.prog.types.size) = true)
    (h : DataW.Trod enc Tryz.prog W 0 (fun _ => true) true t v d p) (hb : Below W.heap.size W W') (hlt : ∀ q ∈ p, q.block < W.heap.size) (sp : Nat → Bool) (hsp : ∀ q ∈ p, sp q.block = true) :
    DataW.Trod enc Tryz.prog W' 0 sp true t v d p := by
  obtain ⟨fuel, h⟩ := h
  exact ⟨fuel, DataW.trod_stays (kids_book laidOut' hr) (book_sized hr) (fun h => by cases h) ⟨of_decide_eq_true hrow, book_self t⟩ h (fun x hx => hb.same (hlt x hx)) hsp⟩
end
/-- the slice value v holds the integers zs of kind k -/
def IntsAt (k : IntKind) (w : World) (v : Value) (zs : List Int) : Prop :=
  (∃ a cap, v = .slice a 0 cap ∧ (a = none → cap = 0) ∧ zs = []) ∨
  (∃ b off cap, v = .slice (some ⟨b, off, none⟩) zs.length cap ∧ 0 < zs.length ∧ zs.length ≤ cap ∧ cap ≤ maxLen ∧ ∀ j, j < zs.length → w.cell? ⟨b, off + j, none⟩ = some (.int k (zs[j]?.getD 0)))
theorem cell_spot {w : World} {a : Addr} {v : Value} (h : w.cell? a = some v) : a = ⟨a.block, a.off, none⟩ := by
  obtain ⟨b, o, s⟩ := a
  unfold World.cell? at h
  cases s with
  | none => rfl
  | some x => simp at h; split at h <;> simp_all
theorem add_plain (b o i : Nat) : (⟨b, o, none⟩ : Addr).add i = ⟨b, o + i, none⟩ := by unfold Addr.add; split <;> simp_all
set_option maxRecDepth 100000 in
theorem ints_at {H : Type} {enc : TypeId × Value → H} {W : World} {base : Nat} {held : Bool} {t e : TypeId} {k : IntKind} {v : Value} {d : DataW H} {p : List MemPlace}
    (ht : Tryz.prog.underlying t = some (.slice e)) (he : Tryz.prog.underlying e = some (.int k)) (hc : Tryz.prog.cellsOf e = 1) (hv : Value.okWide Tryz.prog W .any base t v)
    (h : DataW.Trod enc Tryz.prog W 0 (fun _ => true) held t v d p) : ∃ zs, IntsAt k W v zs ∧ zs.length ≤ maxLen ∧ ∀ n ∈ zs, (Lit.int k n).wf = true := by
  obtain ⟨a0, len, cap, rfl⟩ := okWide_slice ht hv
  obtain ⟨fuel, hf⟩ := h
  rcases open_ints ht he hc hf with ⟨hcs, hx⟩ | ⟨a, len', cap', zs, hcs, _, hl, hm, hz, hx, hcell, hwz⟩
  · simp [Value.cells] at hcs
    obtain ⟨rfl, rfl, rfl⟩ := hcs
    exact ⟨[], .inl ⟨_, _, rfl, fun _ => rfl, rfl⟩, by simp, by simp⟩
  · simp [Value.cells] at hcs
    obtain ⟨rfl, rfl, rfl⟩ := hcs
    simp only [if_true] at hz
    rcases Nat.eq_zero_or_pos len with h0 | h0
    · subst h0
      exact ⟨[], .inl ⟨_, _, rfl, (fun h => by cases h), rfl⟩, by simp, by simp⟩
    · refine ⟨zs.take len, .inr ?_, by rw [List.length_take]; omega, fun n hn => hwz n (List.mem_of_mem_take hn)⟩
      have hc0 := cell_spot (hcell 0 (by omega))
      have hlen : (zs.take len).length = len := by rw [List.length_take]; omega
      obtain ⟨b, o, s⟩ := a
      obtain rfl : s = none := by
        simp only [Addr.add, if_true] at hc0
        exact congrArg Addr.spot hc0
      refine ⟨b, o, cap, by rw [hlen], by omega, by omega, hm, fun j hj => ?_⟩
      rw [hlen] at hj
      have := hcell j (by omega)
      rw [add_plain] at this
      rw [this, List.getElem?_take_of_lt hj, List.getD_eq_getElem?_getD]
theorem IntsAt.below {k : IntKind} {w w' : World} {v : Value} {zs : List Int} (h : IntsAt k w v zs) (hb : Below w.heap.size w w') : IntsAt k w' v zs := by
  rcases h with h | ⟨b, off, cap, h1, h2, h3, h4, h5⟩
  · exact .inl h
  · exact .inr ⟨b, off, cap, h1, h2, h3, h4, fun j hj => (hb.cell (p := ⟨b, off + j, none⟩) (World.block_lt_of_cell? _ _ (h5 j hj))).trans (h5 j hj)⟩
theorem IntsAt.form {k : IntKind} {w : World} {v : Value} {zs : List Int} (h : IntsAt k w v zs) : ∃ a cap, v = .slice a zs.length cap ∧ zs.length ≤ cap := by
  rcases h with ⟨a, cap, rfl, _, rfl⟩ | ⟨b, off, cap, rfl, h0, hl, hc, hx⟩
  · exact ⟨a, cap, rfl, Nat.zero_le _⟩
  · exact ⟨_, cap, rfl, hl⟩
theorem IntsAt.take {k : IntKind} {w : World} {a : Option Addr} {cap : Nat} {zs : List Int} (h : IntsAt k w (.slice a zs.length cap) zs) (m : Nat) (hm : m ≤ zs.length) : IntsAt k w (.slice a m cap) (zs.take m) := by
  have hlen : (zs.take m).length = m := by rw [List.length_take]; omega
  rcases h with ⟨a', cap', e, hn, rfl⟩ | ⟨b, off, cap', e, h0, hl, hc, hx⟩
  · cases e
    simp at hm; subst hm
    exact .inl ⟨_, _, rfl, hn, rfl⟩
  · cases e
    rcases Nat.eq_zero_or_pos m with h1 | h1
    · subst h1; exact .inl ⟨_, _, rfl, (fun h => by cases h), rfl⟩
    · refine .inr ⟨b, off, cap, by rw [hlen], by omega, by omega, hc, fun j hj => ?_⟩
      rw [hlen] at hj
      rw [hx j (by omega), List.getElem?_take_of_lt hj]
end Go.Proofs.YtpfkeohaaeiaaaaGreatDoor.cgn
/- Blocks known whole: what a store, a new block and a callee leave of them. -/
namespace Go.Proofs.YtpfkeohaaeiaaaaGreatDoor.cgn
open Go.RowKit
set_option maxRecDepth 100000
theorem grown_refl (w : World) (r : Option Nat) : w.grownBy w r := ⟨rfl, rfl, rfl, Nat.le_refl _, fun _ _ _ => rfl⟩
theorem grown_trans {a b c : World} {r : Option Nat} (h : a.grownBy b r) (k : b.grownBy c r) : a.grownBy c r :=
  ⟨k.os.trans h.os, k.tape.trans h.tape, k.output.trans h.output, Nat.le_trans h.size k.size, fun i hi hr => (k.block i (Nat.lt_of_lt_of_le hi h.size) hr).trans (h.block i hi hr)⟩
theorem grown_set {a w : World} {b i : Nat} (h : a.grownBy w (some b)) (v : Value) : a.grownBy (w.setCell ⟨b, i, none⟩ v) (some b) :=
  ⟨h.os, h.tape, h.output, by simpa using h.size, fun k hk hr => (heap_setCell_other w _ k v (fun e => hr (by rw [e]))).trans (h.block k hk hr)⟩
theorem grown_drew {a w : World} {r : Option Nat} (h : a.grownBy w r) : a.grownBy w.drew r := ⟨h.os, h.tape, h.output, h.size, h.block⟩
theorem grown_alloc {a w : World} {r : Option Nat} (h : a.grownBy w r) (o : Obj) : a.grownBy (w.alloc o) r :=
  ⟨h.os, h.tape, h.output, by simp; exact Nat.le_succ_of_le h.size, fun k hk hr => (Below.heap_alloc w o k (Nat.lt_of_lt_of_le hk h.size)).trans (h.block k hk hr)⟩
theorem grown_below {w w' : World} {r : Option Nat} (h : Below w.heap.size w w') : w.grownBy w' r := ⟨h.os, h.tape, h.output, h.size, fun k hk _ => h.block k hk⟩
/-- a block of its own: what was below stays -/
theorem below_grown {a w w' : World} {b : Nat} (hB : Below a.heap.size a w) (h : w.grownBy w' (some b)) (hb : a.heap.size ≤ b) : Below a.heap.size a w' :=
  hB.grown h hB.size (fun k e => by cases e; exact hb)
theorem heap_grown {w w' : World} {b k : Nat} {o : Obj} (h : w.grownBy w' (some b)) (hk : w.heap[k]? = some o) (hne : k ≠ b) : w'.heap[k]? = some o :=
  (h.block k (Array.getElem?_eq_some_iff.1 hk).1 (fun e => hne (by cases e; rfl))).trans hk
theorem heap_below {w w' : World} {k : Nat} {o : Obj} (h : Below w.heap.size w w') (hk : w.heap[k]? = some o) : w'.heap[k]? = some o :=
  (h.block k (Array.getElem?_eq_some_iff.1 hk).1).trans hk
theorem cell_whole {w : World} {b : Nat} {cs : Array Value} {T : TypeId} (h : w.heap[b]? = some (.cells cs T (0, 0))) (j : Nat) : w.cell? ⟨b, j, none⟩ = cs[j]? := cell_of_row w b j cs T (0, 0) h
theorem frozen_whole {w : World} {b : Nat} {cs : Array Value} {T : TypeId} (h : w.heap[b]? = some (.cells cs T (0, 0))) (j : Nat) : w.frozen? ⟨b, j, none⟩ = false := by
  simp [World.frozen?, h]
theorem heap_lt {w : World} {b : Nat} {o : Obj} (h : w.heap[b]? = some o) : b < w.heap.size := (Array.getElem?_eq_some_iff.1 h).1
theorem heap_set {w : World} {b i : Nat} {cs : Array Value} {T : TypeId} (v : Value) (h : w.heap[b]? = some (.cells cs T (0, 0))) : (w.setCell ⟨b, i, none⟩ v).heap[b]? = some (.cells (cs.setIfInBounds i v) T (0, 0)) :=
  heap_setCell_same w b i cs T v h
/-- block b has come to hold cs; nothing else that lay in w has turned -/
def Blk (b : Nat) (cs : Array Value) (T : TypeId) (w w' : World) : Prop := w'.heap[b]? = some (.cells cs T (0, 0)) ∧ w.grownBy w' (some b)
theorem Blk.start {b : Nat} {cs : Array Value} {T : TypeId} {w : World} (h : w.heap[b]? = some (.cells cs T (0, 0))) : Blk b cs T w w := ⟨h, grown_refl _ _⟩
theorem Blk.set {b : Nat} {cs : Array Value} {T : TypeId} {w w' : World} (h : Blk b cs T w w') (i : Nat) (v : Value) : Blk b (cs.setIfInBounds i v) T w (w'.setCell ⟨b, i, none⟩ v) := ⟨heap_set v h.1, grown_set h.2 v⟩
theorem Blk.drew {b : Nat} {cs : Array Value} {T : TypeId} {w w' : World} (h : Blk b cs T w w') : Blk b cs T w w'.drew := ⟨h.1, grown_drew h.2⟩
theorem Blk.alloc {b : Nat} {cs : Array Value} {T : TypeId} {w w' : World} (h : Blk b cs T w w') (o : Obj) : Blk b cs T w (w'.alloc o) := ⟨(Below.heap_alloc w' o b (heap_lt h.1)).trans h.1, grown_alloc h.2 o⟩
theorem Blk.trans {b : Nat} {cs cs' : Array Value} {T : TypeId} {w w' w'' : World} (h : Blk b cs T w w') (k : Blk b cs' T w' w'') : Blk b cs' T w w'' := ⟨k.1, grown_trans h.2 k.2⟩
theorem Blk.below {b : Nat} {cs : Array Value} {T : TypeId} {w w' w'' : World} (h : Blk b cs T w w') (k : Below w'.heap.size w' w'') : Blk b cs T w w'' := ⟨heap_below k h.1, grown_trans h.2 (grown_below k)⟩
theorem Blk.cast {b : Nat} {cs cs' : Array Value} {T : TypeId} {w w' : World} (h : Blk b cs T w w') (e : cs = cs') : Blk b cs' T w w' := e ▸ h
theorem Blk.drewN {b : Nat} {cs : Array Value} {T : TypeId} {w w' : World} (h : Blk b cs T w w') (n : Nat) : Blk b cs T w (w'.drewN n) := ⟨h.1, ⟨h.2.os, h.2.tape, h.2.output, h.2.size, h.2.block⟩⟩
end Go.Proofs.YtpfkeohaaeiaaaaGreatDoor.cgn
namespace Go.Proofs.YtpfkeohaaeiaaaaGreatDoor.cgn
open Go.RowKit
set_option maxRecDepth 100000
structure Ctl where
  size : Int
  thr : Int
  flight : Int
  recov : Bool
  since : Int
  budget : Int
  refilled : Int
def Ctl.enc (c : Ctl) : Array Value := #[.int .i64 c.size, .int .i64 c.thr, .int .i64 c.flight, .bool c.recov, .int .i64 c.since, .int .i64 c.budget, .int .i64 c.refilled]
def At (w : World) (b : Nat) (c : Ctl) : Prop := w.heap[b]? = some (.cells c.enc 77 (0, 0))
/-- what a walk wants to know of such a block -/
structure Facts (w : World) (b : Nat) (c : Ctl) : Prop where
  c0 : w.cell? ⟨b, 0, none⟩ = some (.int .i64 c.size)
  c1 : w.cell? ⟨b, 1, none⟩ = some (.int .i64 c.thr)
  c2 : w.cell? ⟨b, 2, none⟩ = some (.int .i64 c.flight)
  c3 : w.cell? ⟨b, 3, none⟩ = some (.bool c.recov)
  c4 : w.cell? ⟨b, 4, none⟩ = some (.int .i64 c.since)
  c5 : w.cell? ⟨b, 5, none⟩ = some (.int .i64 c.budget)
  c6 : w.cell? ⟨b, 6, none⟩ = some (.int .i64 c.refilled)
  fr : ∀ j, w.frozen? ⟨b, j, none⟩ = false
theorem At.facts {w : World} {b : Nat} {c : Ctl} (h : At w b c) : Facts w b c :=
  ⟨cell_whole h 0, cell_whole h 1, cell_whole h 2, cell_whole h 3, cell_whole h 4, cell_whole h 5, cell_whole h 6, frozen_whole h⟩
/-- c became c', and nothing else that lay there has turned -/
def To (b : Nat) (c' : Ctl) (w w' : World) : Prop := At w' b c' ∧ w.grownBy w' (some b)

theorem To.blk {b : Nat} {c : Ctl} {w w' : World} (h : Blk b c.enc 77 w w') : To b c w w' := h
theorem To.set {b : Nat} {c : Ctl} {w : World} (h : At w b c) (i : Nat) (v : Value) (c' : Ctl) (e : c.enc.setIfInBounds i v = c'.enc) : To b c' w (w.setCell ⟨b, i, none⟩ v) :=
  ⟨by unfold At; rw [heap_set v h, e], grown_set (grown_refl _ _) _⟩
theorem To.trans {b : Nat} {c c' : Ctl} {w w' w'' : World} (h : To b c w w') (k : To b c' w' w'') : To b c' w w'' := ⟨k.1, grown_trans h.2 k.2⟩
theorem To.same {b : Nat} {c : Ctl} {w : World} (h : At w b c) : To b c w w := ⟨h, grown_refl _ _⟩
theorem To.drew {b : Nat} {c : Ctl} {w w' : World} (h : To b c w w') : To b c w w'.drew := ⟨h.1, grown_drew h.2⟩
theorem At.drew {b : Nat} {c : Ctl} {w : World} (h : At w b c) : At w.drew b c := h

def bytesF (n : Int) : Int := if 65536 < (if n < 0 then 0 else n) then 65536 else (if n < 0 then 0 else n)
theorem bytesF_range (n : Int) : 0 ≤ bytesF n ∧ bytesF n ≤ 65536 := by unfold bytesF; split <;> split <;> omega
theorem bytes_any (n : Int) (w : World) : Calls Tryz.prog 37 #[.int .i64 n] w fun e w' => e = .returned (.int .i64 (bytesF n)) ∧ w = w' := by
  go_enter Tryz.func37, Tryz.ntmps37
  go_wp2
  all_goals go_ret
  all_goals refine ⟨?_, rfl⟩
  all_goals (unfold bytesF; simp_all)
  all_goals omega
def growF (c : Ctl) (x : Int) : Ctl := { c with size := if 65536 < c.size + x then 65536 else c.size + x }
theorem grow_any (b : Nat) (c : Ctl) (x : Int) (w : World) (h : At w b c) (h1 : 0 ≤ c.size) (h2 : c.size ≤ 65536) (h3 : 0 ≤ x) (h4 : x ≤ 1000000000) :
    Calls Tryz.prog 69 #[.pointer (some ⟨b, 0, none⟩), .int .i64 x] w fun e w' => e = .returned (.tuple #[]) ∧ To b (growF c x) w w' := by
  obtain ⟨c0, c1, c2, c3, c4, c5, c6, fr⟩ := h.facts
  by_cases hc : 65536 < c.size + x
  all_goals
    have E := Lib.hid (show growF c x = _ from by unfold growF; first | rw [if_pos hc] | rw [if_neg hc])
    go_enter Tryz.func69, Tryz.ntmps69
    go_wp2
    go_returns
    exact ⟨rfl, by rw [E.out]; exact To.set h _ _ _ rfl⟩
theorem slow_any (b : Nat) (c : Ctl) (x : Int) (w : World) (h : At w b c) (h1 : 0 ≤ c.size) (h2 : c.size ≤ 65536) (h3 : 0 ≤ x) (h4 : x ≤ 1000000000) :
    Calls Tryz.prog 44 #[.pointer (some ⟨b, 0, none⟩), .int .i64 x] w fun e w' => e = .returned (.tuple #[]) ∧ To b (growF c x) w w' := by
  have G := Lib.hid (grow_any b c x w h h1 h2 h3 h4)
  go_enter Tryz.func44, Tryz.ntmps44
  go_wp2_with (go_at_call 69; refine G.out.mono ?_; rintro e w' ⟨rfl, ht⟩)
  go_returns
  exact ⟨rfl, ht⟩
def avoidBy (c : Ctl) (x : Int) : Int := if 0 < x then (if 512 * x / c.size < 1 then 1 else 512 * x / c.size) else 512 * x / c.size
theorem avoidBy_range (c : Ctl) (x : Int) (h1 : 1024 ≤ c.size) (h3 : 0 ≤ x) (h4 : x ≤ 65536) : 0 ≤ avoidBy c x ∧ avoidBy c x ≤ 32768 := by
  have a : 0 ≤ 512 * x / c.size := Int.ediv_nonneg (by omega) (by omega)
  have b : 512 * x / c.size ≤ 32768 := by
    apply Int.ediv_le_of_le_mul (by omega)
    have : (32768 : Int) * 1024 ≤ 32768 * c.size := by omega
    omega
  unfold avoidBy; split
  · split <;> omega
  · omega
theorem avoid_any (b : Nat) (c : Ctl) (x : Int) (w : World) (h : At w b c) (h1 : 1024 ≤ c.size) (h2 : c.size ≤ 65536) (h3 : 0 ≤ x) (h4 : x ≤ 65536) :
    Calls Tryz.prog 45 #[.pointer (some ⟨b, 0, none⟩), .int .i64 x] w fun e w' => e = .returned (.tuple #[]) ∧ To b (growF c (avoidBy c x)) w w' := by
  have hr := avoidBy_range c x h1 h3 h4
  have G := Lib.hid (fun y h3 h4 => grow_any b c y w h (by omega) h2 h3 h4)
  have a : 0 ≤ 512 * x / c.size := Int.ediv_nonneg (by omega) (by omega)
  obtain ⟨c0, c1, c2, c3, c4, c5, c6, fr⟩ := h.facts
  by_cases hx : 0 < x
  · by_cases hy : 512 * x / c.size < 1
    all_goals
      have E := Lib.hid (show avoidBy c x = _ from by unfold avoidBy; exact (if_pos hx).trans (by first | exact if_pos hy | exact if_neg hy))
      rw [E.out] at hr ⊢
      go_enter Tryz.func45, Tryz.ntmps45
      go_wp2_with (go_at_call 69; refine (G.out _ (by omega) (by omega)).mono ?_; rintro e w' ⟨rfl, ht⟩)
      go_returns
      exact ⟨rfl, ht⟩
  · have E := Lib.hid (show avoidBy c x = _ from by unfold avoidBy; rw [if_neg hx])
    rw [E.out] at hr ⊢
    go_enter Tryz.func45, Tryz.ntmps45
    go_wp2_with (go_at_call 69; refine (G.out _ (by omega) (by omega)).mono ?_; rintro e w' ⟨rfl, ht⟩)
    go_returns
    exact ⟨rfl, ht⟩
def halveF (c : Ctl) : Ctl := { c with size := if c.size / 2 < 1024 then 1024 else c.size / 2, thr := if c.size / 2 < 1024 then 1024 else c.size / 2 }
theorem halve_any (b : Nat) (c : Ctl) (w : World) (h : At w b c) (h1 : 1024 ≤ c.size) (h2 : c.size ≤ 65536) :
    Calls Tryz.prog 46 #[.pointer (some ⟨b, 0, none⟩)] w fun e w' => e = .returned (.tuple #[]) ∧ To b (halveF c) w w' := by
  obtain ⟨c0, c1, c2, c3, c4, c5, c6, fr⟩ := h.facts
  by_cases hc : c.size / 2 < 1024
  all_goals
    have E := Lib.hid (show halveF c = _ from by unfold halveF; first | rw [if_pos hc] | rw [if_neg hc])
    go_enter Tryz.func46, Tryz.ntmps46
    go_wp2
    go_returns
    exact ⟨rfl, by rw [E.out]; exact ((Blk.start h).set 0 _).set 1 _⟩
def oldF (c : Ctl) (sent : Int) : Bool := c.recov && decide (sent ≤ c.since)
theorem old_any (b : Nat) (c : Ctl) (s : Int) (w : World) (h : At w b c) :
    Calls Tryz.prog 43 #[.pointer (some ⟨b, 0, none⟩), .int .i64 s] w fun e w' => e = .returned (.bool (oldF c s)) ∧ w = w' := by
  obtain ⟨c0, c1, c2, c3, c4, c5, c6, fr⟩ := h.facts
  cases hr : c.recov
  · have E := Lib.hid (show oldF c s = false from by unfold oldF; rw [hr]; rfl)
    rw [hr] at c3
    clear hr
    go_enter Tryz.func43, Tryz.ntmps43
    go_wp2
    go_ret
    exact ⟨by rw [E.out]; rfl, rfl⟩
  · have E := Lib.hid (show oldF c s = decide (s ≤ c.since) from by unfold oldF; rw [hr]; rfl)
    rw [hr] at c3
    clear hr
    go_enter Tryz.func43, Tryz.ntmps43
    go_wp2
    go_ret
    exact ⟨by rw [E.out]; rfl, rfl⟩
theorem bytes_still (n : Int) (w : World) : Calls Tryz.prog 37 #[.int .i64 n] w fun e w' => e = .returned (.int .i64 (bytesF n)) ∧ w' = w := (bytes_any n w).mono fun _ _ h => ⟨h.1, h.2.symm⟩
def sentF (c : Ctl) (n : Int) : Ctl := { c with flight := c.flight + bytesF n, budget := c.budget - bytesF n }
set_option maxHeartbeats 1000000 in
theorem sent_any (b : Nat) (c : Ctl) (now n : Int) (w : World) (hA : At w b c) (h1 : 0 ≤ c.flight) (h2 : c.flight ≤ 1125899906842624) (h3 : -1125899906842624 ≤ c.budget) (h4 : c.budget ≤ 1125899906842624) :
    Calls Tryz.prog 18 #[.pointer (some ⟨b, 0, none⟩), .int .i64 now, .int .i64 n] w fun e w' => e = .returned (.tuple #[]) ∧ To b (sentF c n) w w' := by
  have HB : Hid (Blk b (c.enc.setIfInBounds 2 (.int .i64 (c.flight + bytesF n))) 77 w (w.setCell ⟨b, 2, none⟩ (.int .i64 (c.flight + bytesF n))).drew) := Lib.hid (((Blk.start hA).set 2 _).drew)
  have c5' := (cell_whole HB.out.1 5).trans (rfl : _ = some (Value.int .i64 c.budget))
  have fr' := frozen_whole HB.out.1
  obtain ⟨c0, c1, c2, c3, c4, c5, c6, fr⟩ := hA.facts
  have hb := bytesF_range n
  obtain ⟨hb1, hb2⟩ := hb
  have hs : IntKind.i64.wrap (c.flight + bytesF n) = c.flight + bytesF n := IntWalk.i64_in _ (by omega)
  have hs2 : IntKind.i64.wrap (c.budget - bytesF n) = c.budget - bytesF n := IntWalk.i64_in _ (by omega)
  clear c0 c1 c3 c4 c6
  go_enter Tryz.func18, Tryz.ntmps18
  go_wp2
  go_still_tail 9, (by kernel_rfl)
  repeat (first | still_call (bytes_still _ _) | still_step)
  refine wpStill_nil ?_
  go_wp2
  generalize (w.setCell ⟨b, 2, none⟩ (.int .i64 (c.flight + bytesF n))).drew = W1 at *
  go_still_tail 9, (by kernel_rfl)
  repeat (first | still_call (bytes_still _ _) | still_step)
  refine wpStill_nil ?_
  go_wp2
  go_returns
  exact ⟨rfl, (HB.out.set 5 _).drew⟩
def discF (c : Ctl) (n : Int) : Ctl := { c with flight := c.flight - (if c.flight < bytesF n then c.flight else bytesF n) }
set_option maxHeartbeats 1000000 in
theorem disc_any (b : Nat) (c : Ctl) (n : Int) (w : World) (hA : At w b c) (h1 : 0 ≤ c.flight) (h2 : c.flight ≤ 1125899906842624) :
    Calls Tryz.prog 42 #[.pointer (some ⟨b, 0, none⟩), .int .i64 n] w fun e w' => e = .returned (.tuple #[]) ∧ To b (discF c n) w w' := by
  obtain ⟨c0, c1, c2, c3, c4, c5, c6, fr⟩ := hA.facts
  have hb := bytesF_range n
  obtain ⟨hb1, hb2⟩ := hb
  have E0 := Lib.hid (show discF c n = _ from rfl)
  have hs : IntKind.i64.wrap (c.flight - bytesF n) = c.flight - bytesF n := IntWalk.i64_in _ (by omega)
  by_cases hc : c.flight < bytesF n
  all_goals
    go_enter Tryz.func42, Tryz.ntmps42
    go_wp2
    go_still_tail 14, (by kernel_rfl)
    repeat (first | still_call (bytes_still _ _) | still_step)
    refine wpStill_nil ?_
    go_wp2
    go_returns
    refine ⟨rfl, ?_⟩
    unfold discF
    first | rw [if_pos (by omega)] | rw [if_neg (by omega)]
    exact Blk.cast ((Blk.start hA).set 2 _).drew (by simp [Ctl.enc]; try omega)
theorem window_any (b : Nat) (c : Ctl) (w : World) (h : At w b c) : Calls Tryz.prog 20 #[.pointer (some ⟨b, 0, none⟩)] w fun e w' => e = .returned (.int .i64 c.size) ∧ w = w' := by
  obtain ⟨c0, c1, c2, c3, c4, c5, c6, fr⟩ := h.facts
  go_enter Tryz.func20, Tryz.ntmps20
  go_wp2
  go_ret
  exact ⟨rfl, rfl⟩
theorem flight_any (b : Nat) (c : Ctl) (w : World) (h : At w b c) : Calls Tryz.prog 19 #[.pointer (some ⟨b, 0, none⟩)] w fun e w' => e = .returned (.int .i64 c.flight) ∧ w = w' := by
  obtain ⟨c0, c1, c2, c3, c4, c5, c6, fr⟩ := h.facts
  go_enter Tryz.func19, Tryz.ntmps19
  go_wp2
  go_ret
  exact ⟨rfl, rfl⟩
def newC : Ctl := ⟨4096, 65536, 0, false, 0, 1024, 0⟩
theorem new_any (w : World) : Calls Tryz.prog 13 #[] w fun e w' => e = .returned (.pointer (some ⟨w.heap.size, 0, none⟩)) ∧ w' = w.alloc (.cells newC.enc 77) := by
  go_enter Tryz.func13, Tryz.ntmps13
  go_wp2
  go_ret
  exact ⟨rfl, rfl⟩
set_option maxHeartbeats 1000000 in
def lostF (c : Ctl) (now sent n : Int) : Ctl := if oldF (discF c n) sent then discF c n else halveF { discF c n with recov := true, since := now }
theorem lost_any (b : Nat) (c : Ctl) (now sent n : Int) (w : World) (h : At w b c) (h1 : 0 ≤ c.flight) (h2 : c.flight ≤ 1125899906842624) (h3 : 1024 ≤ c.size) (h4 : c.size ≤ 65536) :
    Calls Tryz.prog 22 #[.pointer (some ⟨b, 0, none⟩), .int .i64 now, .int .i64 sent, .int .i64 n] w fun e w' => e = .returned (.tuple #[]) ∧ To b (lostF c now sent n) w w' := by
  have D := Lib.hid (disc_any b c n w h h1 h2)
  have OL := Lib.hid (fun w (h : At w b (discF c n)) => old_any b (discF c n) sent w h)
  have HV := Lib.hid (fun w (h : At w b { discF c n with recov := true, since := now }) => halve_any b _ w h h3 h4)
  obtain ⟨o, ho⟩ : ∃ o, oldF (discF c n) sent = o := ⟨_, rfl⟩
  have EL : Hid (lostF c now sent n = if o then discF c n else halveF { discF c n with recov := true, since := now }) := Lib.hid (by unfold lostF; rw [ho])
  rw [ho] at OL
  clear ho
  cases o
  · go_enter Tryz.func22, Tryz.ntmps22
    go_wp2_with (first | (go_at_call 42; refine D.out.mono ?_; rintro e w1 ⟨rfl, ht⟩; have OL1 := Lib.hid (OL.out w1 ht.1)) | (go_at_call 43; refine OL1.out.mono ?_; rintro e w2 ⟨rfl, rfl⟩; obtain ⟨c0, c1, c2, c3, c4, c5, c6, fr⟩ := ht.1.facts) | (go_at_call 46; refine (HV.out _ (((Blk.start ht.1).set 3 _).set 4 _).1).mono ?_; rintro e w3 ⟨rfl, ht3⟩))
    go_returns
    refine ⟨rfl, ?_⟩
    rw [EL.out]
    exact (Blk.trans (((Blk.trans (cs := (discF c n).enc) ht (Blk.start ht.1)).set 3 _).set 4 _) ht3 : Blk b _ 77 w w3)
  · go_enter Tryz.func22, Tryz.ntmps22
    go_wp2_with (first | (go_at_call 42; refine D.out.mono ?_; rintro e w1 ⟨rfl, ht⟩; have OL1 := Lib.hid (OL.out w1 ht.1)) | (go_at_call 43; refine OL1.out.mono ?_; rintro e w2 ⟨rfl, rfl⟩))
    go_returns
    exact ⟨rfl, by rw [EL.out]; exact ht⟩
end Go.Proofs.YtpfkeohaaeiaaaaGreatDoor.cgn
namespace Go.Proofs.YtpfkeohaaeiaaaaGreatDoor.cgn
open Go.RowKit
set_option maxRecDepth 100000
def rttF (r : Int) : Int := if 1099511627776 < (if r < 1 then 1 else r) then 1099511627776 else (if r < 1 then 1 else r)
theorem rttF_range (r : Int) : 1 ≤ rttF r ∧ rttF r ≤ 1099511627776 := by unfold rttF; split <;> split <;> omega
def ticksF (c : Ctl) (now : Int) : Int := if now - 1000 ≤ c.refilled then now - c.refilled else 1000
def capF (c : Ctl) : Int := if 2048 < c.size / 4 then c.size / 4 else 2048
def moreF (c : Ctl) (now rtt : Int) : Int := c.budget + ticksF c now * c.size * 5 / (4 * rttF rtt)
def refillF (c : Ctl) (now rtt : Int) : Ctl := if c.refilled < now then { c with budget := if capF c < moreF c now rtt then capF c else moreF c now rtt, refilled := now } else c
def allowsF (c : Ctl) (n : Int) : Bool := decide (c.flight + bytesF n ≤ c.size) && decide (0 < c.budget)
theorem To.drewN {b : Nat} {c : Ctl} {w w' : World} (h : To b c w w') (n : Nat) : To b c w (w'.drewN n) := ⟨h.1, h.2.os, h.2.tape, h.2.output, h.2.size, h.2.block⟩
set_option maxHeartbeats 2000000 in
theorem allows_any (b : Nat) (c : Ctl) (now n rtt : Int) (w : World) (hA : At w b c) (h1 : 0 ≤ c.flight) (h2 : c.flight ≤ 1125899906842624) (h3 : 1024 ≤ c.size) (h4 : c.size ≤ 65536) (h5 : -1125899906842624 ≤ c.budget) (h6 : c.budget ≤ 1125899906842624)
    (h7 : 0 ≤ c.refilled) (h8 : now ≤ 9223372036854775807) :
    Calls Tryz.prog 15 #[.pointer (some ⟨b, 0, none⟩), .int .i64 now, .int .i64 n, .int .i64 rtt] w fun e w' => e = .returned (.bool (allowsF (refillF c now rtt) n)) ∧ To b (refillF c now rtt) w w' := by
  by_cases hn : c.refilled < now
  · obtain ⟨c0, c1, c2, c3, c4, c5, c6, fr⟩ := hA.facts
    obtain ⟨R, hR⟩ : ∃ R, rttF rtt = R := ⟨_, rfl⟩
    have hR1 := rttF_range rtt
    rw [hR] at hR1
    obtain ⟨hR1, hR2⟩ := hR1
    unfold rttF at hR
    obtain ⟨M, hM⟩ : ∃ M, (if rtt < 1 then 1 else rtt) = M := ⟨_, rfl⟩
    rw [hM] at hR
    obtain ⟨T, hT⟩ : ∃ T, ticksF c now = T := ⟨_, rfl⟩
    have hT1 : 0 ≤ T ∧ T ≤ 1000 := by rw [← hT]; unfold ticksF; split <;> omega
    obtain ⟨hT1, hT2⟩ := hT1
    have hp1 : 0 ≤ T * c.size := Int.mul_nonneg hT1 (by omega)
    have hp2 : T * c.size ≤ 65536000 := by
      have : T * c.size ≤ 1000 * 65536 := Int.mul_le_mul hT2 h4 (by omega) (by omega)
      omega
    have hq0 : 0 ≤ T * c.size * 5 := by omega
    have hq1 : T * c.size * 5 ≤ 327680000 := by omega
    have hd0 : 0 ≤ T * c.size * 5 / (4 * R) := Int.ediv_nonneg hq0 (by omega)
    have hd1 : T * c.size * 5 / (4 * R) ≤ 327680000 := Int.le_trans (Int.ediv_le_self _ hq0) hq1
    obtain ⟨Kc, hK⟩ : ∃ K, (if 2048 < c.size / 4 then c.size / 4 else 2048) = K := ⟨_, rfl⟩
    obtain ⟨B, hB⟩ : ∃ B, (if Kc < c.budget + T * c.size * 5 / (4 * R) then Kc else c.budget + T * c.size * 5 / (4 * R)) = B := ⟨_, rfl⟩
    have s1 : IntKind.i64.wrap (T * c.size) = T * c.size := IntWalk.i64_in _ (by omega)
    have s2 : IntKind.i64.wrap (T * c.size * 5) = T * c.size * 5 := IntWalk.i64_in _ (by omega)
    have s3 : IntKind.i64.wrap (4 * R) = 4 * R := IntWalk.i64_in _ (by omega)
    have s4 : IntKind.i64.wrap (c.budget + T * c.size * 5 / (4 * R)) = c.budget + T * c.size * 5 / (4 * R) := IntWalk.i64_in _ (by omega)
    have s5 : (T * c.size * 5).tdiv (4 * R) = T * c.size * 5 / (4 * R) := Int.tdiv_eq_ediv_of_nonneg hq0
    have s6 : IntKind.i64.wrap (T * c.size * 5 / (4 * R)) = T * c.size * 5 / (4 * R) := IntWalk.i64_in _ (by omega)
    have s7 : ¬ (4 * R = 0) := by omega
    have s8 : c.size / 4 ≤ 16384 := by omega
    have s9 : 256 ≤ c.size / 4 := by omega
    have s10 : IntKind.i64.wrap (c.size.tdiv 4) = c.size / 4 := IntWalk.i64_quo _ _ ⟨by omega, by omega, by omega⟩
    have E : Hid (refillF c now rtt = { c with budget := B, refilled := now }) := Lib.hid (by
      unfold refillF moreF capF
      rw [if_pos hn, hT, hK, show rttF rtt = R from by unfold rttF; rw [hM]; exact hR, hB])
    rw [E.out]
    have HBk := Lib.hid (((Blk.start hA).set 5 (.int .i64 B)).set 6 (.int .i64 now)).drew
    obtain ⟨C0, C1, C2, C3, C4, C5, C6, FR⟩ := (show At _ b { c with budget := B, refilled := now } from HBk.out.1).facts
    have HC0 := Lib.hid C0
    have HC2 := Lib.hid C2
    have HC5 := Lib.hid C5
    clear C0 C1 C2 C3 C4 C5 C6 FR
    have hb := bytesF_range n
    obtain ⟨hb1, hb2⟩ := hb
    have hs : IntKind.i64.wrap (c.flight + bytesF n) = c.flight + bytesF n := IntWalk.i64_in _ (by omega)
    have hTT : (now - 1000 ≤ c.refilled ∧ now - c.refilled = T) ∨ (c.refilled < now - 1000 ∧ T = 1000) := by
      rw [← hT]; unfold ticksF
      by_cases ht : now - 1000 ≤ c.refilled
      · rw [if_pos ht]; exact .inl ⟨ht, rfl⟩
      · rw [if_neg ht]; exact .inr ⟨by omega, rfl⟩
    clear hT
    by_cases hc : c.flight + bytesF n ≤ c.size
    · have t1 : decide (c.flight + bytesF n ≤ c.size) = true := by simpa using hc
      have HE : Hid (allowsF { c with budget := B, refilled := now } n = decide (0 < B)) := Lib.hid (by unfold allowsF; rw [t1]; rfl)
      rcases hTT with ⟨ht1, ht2⟩ | ⟨ht1, rfl⟩
      all_goals
        go_enter Tryz.func15, Tryz.ntmps15
        go_wp2
        go_still_tail 27, (by kernel_rfl)
        go_wp2
        have D0 := HC0.out
        have D2 := HC2.out
        have D5 := HC5.out
        generalize ((w.setCell ⟨b, 5, none⟩ (.int .i64 B)).setCell ⟨b, 6, none⟩ (.int .i64 now)).drew = W2 at *
        clear c0 c1 c2 c3 c4 c5 c6
        go_quiet ((go_at_call 37; exact Calls.quiet_of_same (bytes_still _ _)))
        go_wp2
        go_ret
        exact ⟨by rw [HE.out]; rfl, To.drewN (c := { c with budget := B, refilled := now }) HBk.out _⟩
    · have t1 : decide (c.flight + bytesF n ≤ c.size) = false := by simpa using hc
      have HE : Hid (allowsF { c with budget := B, refilled := now } n = false) := Lib.hid (by unfold allowsF; rw [t1]; rfl)
      rcases hTT with ⟨ht1, ht2⟩ | ⟨ht1, rfl⟩
      all_goals
        go_enter Tryz.func15, Tryz.ntmps15
        go_wp2
        go_still_tail 27, (by kernel_rfl)
        go_wp2
        have D0 := HC0.out
        have D2 := HC2.out
        generalize ((w.setCell ⟨b, 5, none⟩ (.int .i64 B)).setCell ⟨b, 6, none⟩ (.int .i64 now)).drew = W2 at *
        clear c0 c1 c2 c3 c4 c5 c6
        go_quiet ((go_at_call 37; exact Calls.quiet_of_same (bytes_still _ _)))
        go_wp2
        go_ret
        exact ⟨by rw [HE.out]; rfl, To.drewN (c := { c with budget := B, refilled := now }) HBk.out _⟩
  · have E := Lib.hid (show refillF c now rtt = c from by unfold refillF; rw [if_neg hn])
    rw [E.out]
    obtain ⟨c0, c1, c2, c3, c4, c5, c6, fr⟩ := hA.facts
    have hb := bytesF_range n
    obtain ⟨hb1, hb2⟩ := hb
    have hs : IntKind.i64.wrap (c.flight + bytesF n) = c.flight + bytesF n := IntWalk.i64_in _ (by omega)
    by_cases hc : c.flight + bytesF n ≤ c.size
    · have t1 : decide (c.flight + bytesF n ≤ c.size) = true := by simpa using hc
      go_enter Tryz.func15, Tryz.ntmps15
      go_wp2
      go_quiet ((go_at_call 37; exact Calls.quiet_of_same (bytes_still _ _)))
      go_wp2
      go_ret
      exact ⟨by unfold allowsF; rw [t1]; rfl, (To.same hA).drewN _⟩
    · have t1 : decide (c.flight + bytesF n ≤ c.size) = false := by simpa using hc
      go_enter Tryz.func15, Tryz.ntmps15
      go_wp2
      go_quiet ((go_at_call 37; exact Calls.quiet_of_same (bytes_still _ _)))
      go_wp2
      go_ret
      exact ⟨by unfold allowsF; rw [t1]; rfl, (To.same hA).drewN _⟩
end Go.Proofs.YtpfkeohaaeiaaaaGreatDoor.cgn
namespace Go.Proofs.YtpfkeohaaeiaaaaGreatDoor.cgn
open Go.RowKit
set_option maxRecDepth 100000
theorem set_last (W : World) (o o' : Obj) : { (W.alloc o).drew with heap := (W.alloc o).drew.heap.setIfInBounds W.heap.size o' } = (W.alloc o').drew := by
  have : (W.alloc o).heap.setIfInBounds W.heap.size o' = (W.alloc o').heap := by
    show (W.heap.push o).setIfInBounds W.heap.size o' = W.heap.push o'
    apply Array.ext_getElem?
    intro i
    by_cases h : W.heap.size = i
    · subst h; simp
    · have h' : ¬ i = W.heap.size := fun e => h e.symm
      simp [Array.getElem?_setIfInBounds_ne h, Array.getElem?_push, h']
  show World.mk _ _ _ _ _ = World.mk _ _ _ _ _
  congr 1
theorem last_drew (W : World) (o : Obj) : (W.alloc o).drew.heap[W.heap.size]? = some o := heap_alloc_new W o
theorem check_bool (x e : Bool) (w : World) : (Instr.checkKey e 10000 4 (.bool x)).run Tryz.prog w = .ok () w := by kernel_rfl
theorem run_insert_bool (W : World) (es : Array MapEntry) (clock : Nat) (x : Bool) (v : Value) (hn : Instr.findNow .bool (.bool x) es.toList 0 = some none) :
    (Instr.mapUpdate 90 (.map (some W.heap.size)) (.bool x) v).run Tryz.prog ((W.alloc (.map es clock)).drew) = .ok () ((W.alloc (.map (es.push ⟨.bool x, v, clock⟩) (clock + 1))).drew) := by
  have hr := last_drew W (.map es clock)
  have e2 : ∀ w, (Instr.findKey 4 (.bool x) es.toList).run Tryz.prog w = .ok none w := by
    intro w
    simp only [Instr.findKey, Sem.run_bind, run_underlying Tryz.underlying4, Result.andThen_ok, hn]; rfl
  simp only [Instr.mapUpdate, Sem.run_bind, run_underlying Tryz.underlying90, Result.andThen_ok, MapKept.run_getObj_map hr, check_bool, e2, MapKept.run_setObj_map _ hr, set_last]
theorem run_look_bool (W : World) (es : Array MapEntry) (clock : Nat) (x : Bool) (i : Nat) (v : Value) (r : Nat) (hr : W.heap[r]? = some (.map es clock)) (hn : Instr.findNow .bool (.bool x) es.toList 0 = some (some (i, v))) :
    (Instr.lookup 90 (.map (some r)) (.bool x) false).run Tryz.prog W = .ok v W := by
  have e2 : ∀ w, (Instr.findKey 4 (.bool x) es.toList).run Tryz.prog w = .ok (some (i, v)) w := by
    intro w
    simp only [Instr.findKey, Sem.run_bind, run_underlying Tryz.underlying4, Result.andThen_ok, hn]; rfl
  simp [Instr.lookup, Sem.run_bind, run_underlying Tryz.underlying90, MapKept.run_getObj_map hr, check_bool, e2]
end Go.Proofs.YtpfkeohaaeiaaaaGreatDoor.cgn
namespace Go.Proofs.YtpfkeohaaeiaaaaGreatDoor.cgn
open Go.RowKit
set_option maxRecDepth 100000
def F31 (b : Nat) : Value := .func (.func 44) #[.pointer (some ⟨b, 0, none⟩)] #[]
def F32 (b : Nat) : Value := .func (.func 45) #[.pointer (some ⟨b, 0, none⟩)] #[]
/-- the world behind the map: the controller as it was, and what the map answers -/
def Mapped (b r : Nat) (d : Ctl) (w1 W2 : World) : Prop := Blk b d.enc 77 w1 W2 ∧ (Instr.lookup 90 (.map (some r)) (.bool true) false).run Tryz.prog W2.drew = .ok (F31 b) W2.drew ∧ (Instr.lookup 90 (.map (some r)) (.bool false) false).run Tryz.prog W2.drew = .ok (F32 b) W2.drew
theorem mapped1 (b : Nat) (d : Ctl) (w1 : World) (h : At w1 b d) : ∃ W2, (w1.alloc (Obj.map #[⟨.bool true, .func (.func 44) #[.pointer (some ⟨b, 0, none⟩)] #[], 0⟩, ⟨.bool false, .func (.func 45) #[.pointer (some ⟨b, 0, none⟩)] #[], 1⟩] 2)).drew = W2 ∧ Mapped b w1.heap.size d w1 W2 :=
  ⟨_, rfl, ((Blk.start h).alloc _).drew, run_look_bool _ _ 2 true 0 _ _ (last_drew w1 _) rfl, run_look_bool _ _ 2 false 1 _ _ (last_drew w1 _) rfl⟩
theorem mapped2 (b : Nat) (d : Ctl) (w1 : World) (h : At w1 b d) : ∃ W2, (w1.alloc (Obj.map #[⟨.bool false, .func (.func 45) #[.pointer (some ⟨b, 0, none⟩)] #[], 0⟩, ⟨.bool true, .func (.func 44) #[.pointer (some ⟨b, 0, none⟩)] #[], 1⟩] 2)).drew = W2 ∧ Mapped b w1.heap.size d w1 W2 :=
  ⟨_, rfl, ((Blk.start h).alloc _).drew, run_look_bool _ _ 2 true 1 _ _ (last_drew w1 _) rfl, run_look_bool _ _ 2 false 0 _ _ (last_drew w1 _) rfl⟩
def ackedF (c : Ctl) (sent n : Int) : Ctl := if oldF (discF c n) sent then discF c n else if (discF c n).size < (discF c n).thr then growF (discF c n) (bytesF n) else growF (discF c n) (avoidBy (discF c n) (bytesF n))
set_option maxHeartbeats 8000000 in
theorem acked_any (b : Nat) (c : Ctl) (now sent n : Int) (w : World) (hA : At w b c) (h1 : 0 ≤ c.flight) (h2 : c.flight ≤ 1125899906842624) (h3 : 1024 ≤ c.size) (h4 : c.size ≤ 65536) :
    Calls Tryz.prog 21 #[.pointer (some ⟨b, 0, none⟩), .int .i64 now, .int .i64 sent, .int .i64 n] w fun e w' => e = .returned (.tuple #[]) ∧ To b (ackedF c sent n) w w' := by
  have D := Lib.hid (disc_any b c n w hA h1 h2)
  have OL := Lib.hid (fun w (h : At w b (discF c n)) => old_any b (discF c n) sent w h)
  have hb := bytesF_range n
  obtain ⟨hb1, hb2⟩ := hb
  have EL : Hid (ackedF c sent n = if oldF (discF c n) sent then discF c n else if (discF c n).size < (discF c n).thr then growF (discF c n) (bytesF n) else growF (discF c n) (avoidBy (discF c n) (bytesF n))) := Lib.hid rfl
  have hd1 : 1024 ≤ (discF c n).size := h3
  have hd2 : (discF c n).size ≤ 65536 := h4
  generalize discF c n = d at *
  obtain ⟨o, ho⟩ : ∃ o, oldF d sent = o := ⟨_, rfl⟩
  rw [ho] at OL EL
  clear ho
  cases o
  · have hmm := @run_makeMap Tryz.prog
    have I1 : ∀ (W : World) (v : Value), (Instr.mapUpdate 90 (.map (some W.heap.size)) (.bool true) v).run Tryz.prog ((W.alloc (.map #[] 0)).drew) = .ok () ((W.alloc (.map #[⟨.bool true, v, 0⟩] 1)).drew) := fun W v => run_insert_bool W #[] 0 true v rfl
    have I2 : ∀ (W : World) (v : Value), (Instr.mapUpdate 90 (.map (some W.heap.size)) (.bool false) v).run Tryz.prog ((W.alloc (.map #[] 0)).drew) = .ok () ((W.alloc (.map #[⟨.bool false, v, 0⟩] 1)).drew) := fun W v => run_insert_bool W #[] 0 false v rfl
    have I3 : ∀ (W : World) (u v : Value), (Instr.mapUpdate 90 (.map (some W.heap.size)) (.bool false) v).run Tryz.prog ((W.alloc (.map #[⟨.bool true, u, 0⟩] 1)).drew) = .ok () ((W.alloc (.map #[⟨.bool true, u, 0⟩, ⟨.bool false, v, 1⟩] 2)).drew) := fun W u v => run_insert_bool W #[⟨.bool true, u, 0⟩] 1 false v rfl
    have I4 : ∀ (W : World) (u v : Value), (Instr.mapUpdate 90 (.map (some W.heap.size)) (.bool true) v).run Tryz.prog ((W.alloc (.map #[⟨.bool false, u, 0⟩] 1)).drew) = .ok () ((W.alloc (.map #[⟨.bool false, u, 0⟩, ⟨.bool true, v, 1⟩] 2)).drew) := fun W u v => run_insert_bool W #[⟨.bool false, u, 0⟩] 1 true v rfl
    go_enter Tryz.func21, Tryz.ntmps21
    go_wp2_with (first | (go_at_call 42; refine D.out.mono ?_; rintro e w1 ⟨rfl, ht⟩; have OL1 := Lib.hid (OL.out w1 ht.1)) | (go_at_call 43; refine OL1.out.mono ?_; rintro e w2 ⟨rfl, rfl⟩; obtain ⟨c0, c1, c2, c3, c4, c5, c6, fr⟩ := ht.1.facts))
    go_region_held3 (fun _ => True) (exact trivial) ((fail))
    all_goals
      have K1 := Lib.hid (mapped1 b d w1 ht.1)
      have K2 := Lib.hid (mapped2 b d w1 ht.1)
      clear c0 c1 c2 c3 c4 c5 c6 fr I1 I2 I3 I4 hmm
      first | (obtain ⟨W2, hW2, hP⟩ := K1.out; rw [hW2]; clear hW2) | (obtain ⟨W2, hW2, hP⟩ := K2.out; rw [hW2]; clear hW2)
      clear K1 K2
      obtain ⟨hBk, hL1, hL2⟩ := hP
      unfold F31 at hL1
      unfold F32 at hL2
      generalize w1.heap.size = r at *
      have hAt2 : At W2.drew b d := hBk.1
      obtain ⟨c0, c1, c2, c3, c4, c5, c6, fr⟩ := (show At W2 b d from hBk.1).facts
      clear c2 c3 c4 c5 c6
      have HAt := Lib.hid hAt2
      have HT := Lib.hid (grown_trans ht.2 hBk.2)
      clear hBk ht hAt2
      have S1 := Lib.hid (fun (h : d.size < d.thr) => show (if d.size < d.thr then growF d (bytesF n) else growF d (avoidBy d (bytesF n))) = _ from if_pos h)
      have S2 := Lib.hid (fun (h : ¬ d.size < d.thr) => show (if d.size < d.thr then growF d (bytesF n) else growF d (avoidBy d (bytesF n))) = _ from if_neg h)
      by_cases hlt : d.size < d.thr
      · have E2 := Lib.hid (S1.out hlt)
        go_wp2
        go_still_tail 15, (by kernel_rfl)
        repeat (first | still_step | still_call (bytes_still _ _))
        refine wpStill_nil ?_
        go_wp2_with (go_at_call 44; refine (slow_any b d _ _ HAt.out (by omega) (by omega) (by omega) (by omega)).mono ?_; rintro e w9 ⟨rfl, ht9⟩)
        go_returns
        have hfin : To b (growF d _) w w9 := ⟨ht9.1, grown_trans HT.out (grown_trans (grown_drew (grown_refl _ _)) ht9.2)⟩
        have E3 := EL.out.trans ((if_neg Bool.false_ne_true).trans E2.out)
        exact ⟨rfl, by rw [E3]; exact hfin⟩
      · have E2 := Lib.hid (S2.out hlt)
        have hge : d.thr ≤ d.size := by omega
        have hge2 : decide (d.size < d.thr) = false := by simp; omega
        clear hlt
        go_wp2
        go_still_tail 15, (by kernel_rfl)
        repeat (first | still_step | still_call (bytes_still _ _))
        refine wpStill_nil ?_
        go_wp2_with (go_at_call 45; refine (avoid_any b d _ _ HAt.out (by omega) (by omega) (by omega) (by omega)).mono ?_; rintro e w9 ⟨rfl, ht9⟩)
        go_returns
        have hfin : To b (growF d _) w w9 := ⟨ht9.1, grown_trans HT.out (grown_trans (grown_drew (grown_refl _ _)) ht9.2)⟩
        have E3 := EL.out.trans ((if_neg Bool.false_ne_true).trans E2.out)
        exact ⟨rfl, by rw [E3]; exact hfin⟩
  · go_enter Tryz.func21, Tryz.ntmps21
    go_wp2_with (first | (go_at_call 42; refine D.out.mono ?_; rintro e w1 ⟨rfl, ht⟩; have OL1 := Lib.hid (OL.out w1 ht.1)) | (go_at_call 43; refine OL1.out.mono ?_; rintro e w2 ⟨rfl, rfl⟩))
    go_returns
    exact ⟨rfl, by rw [EL.out]; exact ht⟩
end Go.Proofs.YtpfkeohaaeiaaaaGreatDoor.cgn
