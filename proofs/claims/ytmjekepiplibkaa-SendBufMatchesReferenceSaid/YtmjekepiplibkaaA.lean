import Derived.Test.YtmjekepiplibkaaObj
import Derived.Test.YtmjekepiplibkaaAppend2
import Derived.Deep.RegionHeld3
import Derived.BigQuiet
import Derived.Deep.QuietTactic
import Derived.StillTailTactics
import Derived.BigGuardPart
namespace Go.Proofs.Ytmjekepiplibkaa
open Go.RowKit
/-- only the blocks of F may have turned; new ones may have come -/
structure Chg (F : Nat → Prop) (w w' : World) : Prop where
  os : w'.os = w.os
  tape : w'.tape = w.tape
  output : w'.output = w.output
  size : w.heap.size ≤ w'.heap.size
  block : ∀ k, k < w.heap.size → ¬ F k → w'.heap[k]? = w.heap[k]?
def Ext (F : Nat → Prop) (w w' : World) (k : Nat) : Prop := F k ∨ (w.heap.size ≤ k ∧ k < w'.heap.size)
theorem Chg.refl (F : Nat → Prop) (w : World) : Chg F w w := ⟨rfl, rfl, rfl, Nat.le_refl _, fun _ _ _ => rfl⟩
theorem Chg.trans {F : Nat → Prop} {a b c : World} (h : Chg F a b) (k : Chg (Ext F a b) b c) : Chg F a c :=
  ⟨k.os.trans h.os, k.tape.trans h.tape, k.output.trans h.output, Nat.le_trans h.size k.size, fun i hi hf => (k.block i (Nat.lt_of_lt_of_le hi h.size) (fun e => e.elim hf (fun e => Nat.not_le.2 hi e.1))).trans (h.block i hi hf)⟩
theorem Chg.trans1 {F : Nat → Prop} {a b c : World} (h : Chg F a b) (k : Chg F b c) : Chg F a c :=
  ⟨k.os.trans h.os, k.tape.trans h.tape, k.output.trans h.output, Nat.le_trans h.size k.size, fun i hi hf => (k.block i (Nat.lt_of_lt_of_le hi h.size) hf).trans (h.block i hi hf)⟩
theorem Chg.mono {F G : Nat → Prop} {a b : World} (h : Chg F a b) (hs : ∀ k, F k → G k) : Chg G a b := ⟨h.os, h.tape, h.output, h.size, fun k hk hg => h.block k hk (fun e => hg (hs k e))⟩
theorem Chg.grown {w w' : World} {b : Nat} {F : Nat → Prop} (h : w.grownBy w' (some b)) (hF : F b) : Chg F w w' := ⟨h.os, h.tape, h.output, h.size, fun k hk hn => h.block k hk (fun e => hn (by cases e; exact hF))⟩
theorem Chg.grownO {w w' : World} {r : Option Nat} {F : Nat → Prop} (h : w.grownBy w' r) (hF : ∀ k, r = some k → F k) : Chg F w w' := ⟨h.os, h.tape, h.output, h.size, fun k hk hn => h.block k hk (fun e => hn (hF k e.symm))⟩
theorem Chg.drew {F : Nat → Prop} {a b : World} (h : Chg F a b) : Chg F a b.drew := ⟨h.os, h.tape, h.output, h.size, h.block⟩
theorem Chg.below {F : Nat → Prop} {a b : World} (h : Below a.heap.size a b) : Chg F a b := ⟨h.os, h.tape, h.output, h.size, fun k hk _ => h.block k hk⟩
theorem Chg.toBelow {F : Nat → Prop} {W a b : World} (hB : Below W.heap.size W a) (h : Chg F a b) (hF : ∀ k, F k → W.heap.size ≤ k) : Below W.heap.size W b :=
  ⟨h.os.trans hB.os, h.tape.trans hB.tape, h.output.trans hB.output, Nat.le_trans hB.size h.size, fun k hk => (h.block k (Nat.lt_of_lt_of_le hk hB.size) (fun e => Nat.not_le.2 hk (hF k e))).trans (hB.block k hk)⟩
theorem Chg.heap {F : Nat → Prop} {a b : World} (h : Chg F a b) {k : Nat} {o : Obj} (hk : a.heap[k]? = some o) (hn : ¬ F k) : b.heap[k]? = some o := (h.block k (heap_lt hk) hn).trans hk
/-- a row of the call's own is there again where its block has stayed -/
theorem own_same {w w' : World} {base : Nat} {e : TypeId} {size : Nat} {v : Value} {n : Nat} {xs : List Value} (h : w.ownsRow base e size v n xs) (hs : ∀ k, v.ownBlock = some k → w'.heap[k]? = w.heap[k]?) : w'.ownsRow base e size v n xs := by
  obtain ⟨hl, h⟩ := h
  refine ⟨hl, ?_⟩
  rcases h with h | ⟨g, cap, cur, rfl, h2, h3, h4⟩
  · exact .inl h
  · exact .inr ⟨g, cap, cur, rfl, h2, (hs g rfl).trans h3, h4⟩
theorem own_lt {w : World} {base : Nat} {e : TypeId} {size : Nat} {v : Value} {n : Nat} {xs : List Value} (h : w.ownsRow base e size v n xs) : ∀ k, v.ownBlock = some k → k < w.heap.size := by
  intro k hk
  rcases h.2 with ⟨rfl, _⟩ | ⟨g, cap, cur, rfl, hb, hg, _⟩
  · cases hk
  · have : g = k := by simpa [Value.ownBlock] using hk
    subst this; exact heap_lt hg
structure Bf where
  lim : Int
  base : Int
  data : List Int
  st : List Int
  sent : Int
  fin : Bool
  ed : Int
def Bf.cells (B : Bf) (vd vs : Value) : Array Value := #[.int .i64 B.lim, .int .i64 B.base, vd, vs, .int .i64 B.sent, .bool B.fin, .int .u8 B.ed]
structure Rep (w : World) (b : Nat) (F : Nat → Prop) (B : Bf) (vd vs : Value) : Prop where
  obj : w.heap[b]? = some (.cells (B.cells vd vs) 59 (0, 0))
  rd : w.ownsRow 0 5 1 vd B.data.length (B.data.map (.int .u8))
  rs : w.ownsRow 0 57 1 vs B.st.length (B.st.map (.int .u8))
  fb : F b
  fd : ∀ k, vd.ownBlock = some k → F k ∧ k ≠ b
  fs : ∀ k, vs.ownBlock = some k → F k ∧ k ≠ b ∧ vd.ownBlock ≠ some k
structure Facts (w : World) (b : Nat) (B : Bf) (vd vs : Value) : Prop where
  c0 : w.cell? ⟨b, 0, none⟩ = some (.int .i64 B.lim)
  c1 : w.cell? ⟨b, 1, none⟩ = some (.int .i64 B.base)
  c2 : w.cell? ⟨b, 2, none⟩ = some vd
  c3 : w.cell? ⟨b, 3, none⟩ = some vs
  c4 : w.cell? ⟨b, 4, none⟩ = some (.int .i64 B.sent)
  c5 : w.cell? ⟨b, 5, none⟩ = some (.bool B.fin)
  c6 : w.cell? ⟨b, 6, none⟩ = some (.int .u8 B.ed)
  fr : ∀ j, w.frozen? ⟨b, j, none⟩ = false
theorem Rep.facts {w : World} {b : Nat} {F : Nat → Prop} {B : Bf} {vd vs : Value} (h : Rep w b F B vd vs) : Facts w b B vd vs :=
  ⟨cell_whole h.obj 0, cell_whole h.obj 1, cell_whole h.obj 2, cell_whole h.obj 3, cell_whole h.obj 4, cell_whole h.obj 5, cell_whole h.obj 6, frozen_whole h.obj⟩
theorem own_form {w : World} {base : Nat} {e : TypeId} {size : Nat} {v : Value} {n : Nat} {xs : List Value} (h : w.ownsRow base e size v n xs) : ∃ a cap, v = .slice a n cap ∧ n ≤ cap := by
  rcases h.2 with ⟨rfl, rfl⟩ | ⟨g, cap, cur, rfl, hb, hg, hn, _⟩
  · exact ⟨none, 0, rfl, Nat.le_refl _⟩
  · exact ⟨_, cap, rfl, hn⟩
/-- the whole thing lies elsewhere: it stays -/
theorem Rep.stay {w w' : World} {b : Nat} {F : Nat → Prop} {B : Bf} {vd vs : Value} (h : Rep w b F B vd vs) (hs : ∀ k, F k → k < w.heap.size → w'.heap[k]? = w.heap[k]?) : Rep w' b F B vd vs :=
  ⟨(hs b h.fb (heap_lt h.obj)).trans h.obj, own_same h.rd (fun k hk => hs k (h.fd k hk).1 (own_lt h.rd k hk)), own_same h.rs (fun k hk => hs k (h.fs k hk).1 (own_lt h.rs k hk)), h.fb, h.fd, h.fs⟩
theorem Rep.below {w w' : World} {b : Nat} {F : Nat → Prop} {B : Bf} {vd vs : Value} (h : Rep w b F B vd vs) (hb : Below w.heap.size w w') : Rep w' b F B vd vs := h.stay (fun k _ hk => hb.block k hk)
theorem Rep.chg {w w' : World} {b : Nat} {F G : Nat → Prop} {B : Bf} {vd vs : Value} (h : Rep w b F B vd vs) (hc : Chg G w w') (hd : ∀ k, F k → ¬ G k) : Rep w' b F B vd vs := h.stay (fun k hf hk => hc.block k hk (hd k hf))
theorem Rep.drew {w : World} {b : Nat} {F : Nat → Prop} {B : Bf} {vd vs : Value} (h : Rep w b F B vd vs) : Rep w.drew b F B vd vs := h.stay (fun _ _ _ => rfl)
theorem Rep.drewN {w : World} {b : Nat} {F : Nat → Prop} {B : Bf} {vd vs : Value} (h : Rep w b F B vd vs) (n : Nat) : Rep (w.drewN n) b F B vd vs := h.stay (fun _ _ _ => rfl)
theorem Rep.ext {w : World} {b : Nat} {F G : Nat → Prop} {B : Bf} {vd vs : Value} (h : Rep w b F B vd vs) (hs : ∀ k, F k → G k) : Rep w b G B vd vs :=
  ⟨h.obj, h.rd, h.rs, hs _ h.fb, fun k hk => ⟨hs _ (h.fd k hk).1, (h.fd k hk).2⟩, fun k hk => ⟨hs _ (h.fs k hk).1, (h.fs k hk).2⟩⟩
/-- a field of the block itself (no row) is set -/
theorem Rep.set {w : World} {b : Nat} {F : Nat → Prop} {B B' : Bf} {vd vs : Value} (h : Rep w b F B vd vs) (i : Nat) (v : Value) (e : (B.cells vd vs).setIfInBounds i v = B'.cells vd vs) (hd : B'.data = B.data) (hs : B'.st = B.st) : Rep (w.setCell ⟨b, i, none⟩ v) b F B' vd vs :=
  ⟨by rw [heap_set v h.obj, e], by rw [hd]; exact own_same h.rd (fun k hk => heap_setCell_other w _ k v (h.fd k hk).2), by rw [hs]; exact own_same h.rs (fun k hk => heap_setCell_other w _ k v (h.fs k hk).2.1), h.fb, h.fd, h.fs⟩
theorem Chg.set {w w' : World} {F : Nat → Prop} (h : Chg F w w') (b i : Nat) (v : Value) (hF : F b) : Chg F w (w'.setCell ⟨b, i, none⟩ v) := h.trans1 (Chg.grown (grown_set (grown_refl _ _) v) hF)
/-- a byte of the states is set -/
def Move (b : Nat) (F : Nat → Prop) (B : Bf) (w w' : World) : Prop := Chg F w w' ∧ ∃ vd vs, Rep w' b (Ext F w w') B vd vs
def Inv (w : World) (b : Nat) (F : Nat → Prop) (B : Bf) : Prop := ∃ vd vs, Rep w b F B vd vs
theorem Inv.below {w w' : World} {b : Nat} {F : Nat → Prop} {B : Bf} (h : Inv w b F B) (hb : Below w.heap.size w w') : Inv w' b F B := by obtain ⟨vd, vs, h⟩ := h; exact ⟨vd, vs, h.below hb⟩
theorem Inv.chg {w w' : World} {b : Nat} {F G : Nat → Prop} {B : Bf} (h : Inv w b F B) (hc : Chg G w w') (hd : ∀ k, F k → ¬ G k) : Inv w' b F B := by obtain ⟨vd, vs, h⟩ := h; exact ⟨vd, vs, h.chg hc hd⟩
theorem Inv.drewN {w : World} {b : Nat} {F : Nat → Prop} {B : Bf} (h : Inv w b F B) (n : Nat) : Inv (w.drewN n) b F B := by obtain ⟨vd, vs, h⟩ := h; exact ⟨vd, vs, h.drewN n⟩
/-- what always holds of a buffer -/
structure Good (B : Bf) : Prop where
  l1 : 1 ≤ B.lim
  l2 : B.lim ≤ 8192
  b0 : 0 ≤ B.base
  b1 : B.base ≤ 1125899906842624
  len : B.st.length = B.data.length
  cap : (B.data.length : Int) ≤ B.lim
  s0 : B.base ≤ B.sent
  s1 : B.sent ≤ B.base + B.data.length
def newB (n : Int) : Bf := ⟨n, 0, [], [], 0, false, 0⟩
def goodLim (n : Int) : Bool := decide (1 ≤ n) && decide (n ≤ 8192)
theorem new_ok (n : Int) (w : World) (h1 : 1 ≤ n) (h2 : n ≤ 8192) :
    Calls Try.prog 12 #[.int .i64 n] w fun e w' => e = .returned (.tuple #[.pointer (some ⟨w.heap.size, 0, none⟩), .int .i64 0]) ∧ w' = w.alloc (.cells ((newB n).cells (.slice none 0 0) (.slice none 0 0)) 59) := by
  go_enter Try.func12, Try.ntmps12
  go_wp2
  go_returns
  exact ⟨rfl, rfl⟩
theorem new_no (n : Int) (w : World) (h : ¬ (1 ≤ n ∧ n ≤ 8192)) :
    Calls Try.prog 12 #[.int .i64 n] w fun e w' => e = .returned (.tuple #[.pointer none, .int .i64 2]) ∧ w' = w := by
  by_cases h1 : 1 ≤ n
  all_goals
    have h2 : n < 1 ∨ 8192 < n := by omega
    first | have h2 : n < 1 := by omega | have h2 : 8192 < n := by omega
    go_enter Try.func12, Try.ntmps12
    go_wp2
    go_returns
    exact ⟨rfl, rfl⟩
theorem new_rep (n : Int) (w : World) : Rep (w.alloc (.cells ((newB n).cells (.slice none 0 0) (.slice none 0 0)) 59)) w.heap.size (fun k => k = w.heap.size) (newB n) (.slice none 0 0) (.slice none 0 0) :=
  ⟨heap_alloc_new w _, World.ownsRow_nil _ _ _ _, World.ownsRow_nil _ _ _ _, rfl, (fun k hk => by cases hk), (fun k hk => by cases hk)⟩
def spaceF (B : Bf) : Int := if B.fin then 0 else B.lim - B.data.length
theorem space_any (b : Nat) (F : Nat → Prop) (B : Bf) (w : World) (h : Inv w b F B) (hg : Good B) :
    Calls Try.prog 19 #[.pointer (some ⟨b, 0, none⟩)] w fun e w' => e = .returned (.int .i64 (spaceF B)) ∧ ∃ m, w' = w.drewN m := by
  obtain ⟨vd, vs, h⟩ := h
  obtain ⟨a, cap, rfl, hn⟩ := own_form h.rd
  obtain ⟨c0, c1, c2, c3, c4, c5, c6, fr⟩ := h.facts
  obtain ⟨l1, l2, b0, b1, len, cp, s0, s1⟩ := hg
  have hw : IntKind.i64.wrap (B.lim - (B.data.length : Int)) = B.lim - (B.data.length : Int) := IntWalk.i64_in _ (by omega)
  cases hf : B.fin
  · have E := Lib.hid (show spaceF B = B.lim - B.data.length from by unfold spaceF; rw [hf]; rfl)
    rw [hf] at c5
    clear hf
    go_enter Try.func19, Try.ntmps19
    go_wp2
    go_quiet (fail)
    go_wp2
    go_ret
    exact ⟨by rw [E.out]; try rfl, _, rfl⟩
  · have E := Lib.hid (show spaceF B = 0 from by unfold spaceF; rw [hf]; rfl)
    rw [hf] at c5
    clear hf
    go_enter Try.func19, Try.ntmps19
    go_wp2
    go_ret
    exact ⟨by rw [E.out]; try rfl, 0, rfl⟩
theorem space_nil (w : World) : Calls Try.prog 19 #[.pointer none] w fun e w' => e = .returned (.int .i64 0) ∧ ∃ m, w' = w.drewN m := by
  go_enter Try.func19, Try.ntmps19
  go_wp2
  go_ret
  exact ⟨rfl, 0, rfl⟩
def writtenF (B : Bf) : Int := B.base + B.data.length
theorem written_any (b : Nat) (F : Nat → Prop) (B : Bf) (w : World) (h : Inv w b F B) (hg : Good B) :
    Calls Try.prog 20 #[.pointer (some ⟨b, 0, none⟩)] w fun e w' => e = .returned (.int .i64 (writtenF B)) ∧ ∃ m, w' = w.drewN m := by
  obtain ⟨vd, vs, h⟩ := h
  obtain ⟨a, cap, rfl, hn⟩ := own_form h.rd
  obtain ⟨c0, c1, c2, c3, c4, c5, c6, fr⟩ := h.facts
  obtain ⟨l1, l2, b0, b1, len, cp, s0, s1⟩ := hg
  have hw : IntKind.i64.wrap (B.base + (B.data.length : Int)) = B.base + (B.data.length : Int) := IntWalk.i64_in _ (by omega)
  go_enter Try.func20, Try.ntmps20
  go_wp2
  go_quiet (fail)
  go_wp2
  go_ret
  exact ⟨rfl, _, rfl⟩
theorem sent_any (b : Nat) (F : Nat → Prop) (B : Bf) (w : World) (h : Inv w b F B) :
    Calls Try.prog 21 #[.pointer (some ⟨b, 0, none⟩)] w fun e w' => e = .returned (.int .i64 B.sent) ∧ w' = w := by
  obtain ⟨vd, vs, h⟩ := h
  obtain ⟨c0, c1, c2, c3, c4, c5, c6, fr⟩ := h.facts
  go_enter Try.func21, Try.ntmps21
  go_wp2
  go_ret
  exact ⟨rfl, rfl⟩
theorem finish_any (b : Nat) (F : Nat → Prop) (B : Bf) (w : World) (h : Inv w b F B) :
    Calls Try.prog 15 #[.pointer (some ⟨b, 0, none⟩)] w fun e w' => e = .returned (.tuple #[]) ∧ Chg F w w' ∧ Inv w' b F { B with fin := true } ∧ w'.heap.size = w.heap.size := by
  obtain ⟨vd, vs, h⟩ := h
  obtain ⟨c0, c1, c2, c3, c4, c5, c6, fr⟩ := h.facts
  have R := Lib.hid h
  go_enter Try.func15, Try.ntmps15
  go_wp2
  go_returns
  exact ⟨rfl, (Chg.refl F w).set b 5 _ R.out.fb, ⟨vd, vs, R.out.set 5 _ rfl rfl rfl⟩, by simp⟩
def openF (B : Bf) : Bool := B.fin && (decide (B.ed = 0) || decide (B.ed = 2))
theorem open_any (b : Nat) (F : Nat → Prop) (B : Bf) (w : World) (h : Inv w b F B) :
    Calls Try.prog 32 #[.pointer (some ⟨b, 0, none⟩)] w fun e w' => e = .returned (.bool (openF B)) ∧ w' = w := by
  obtain ⟨vd, vs, h⟩ := h
  obtain ⟨c0, c1, c2, c3, c4, c5, c6, fr⟩ := h.facts
  cases hf : B.fin
  · have E := Lib.hid (show openF B = false from by unfold openF; rw [hf]; rfl)
    rw [hf] at c5
    clear hf
    go_enter Try.func32, Try.ntmps32
    go_wp2
    go_ret
    exact ⟨by rw [E.out]; try rfl, rfl⟩
  · rw [hf] at c5
    by_cases h1 : B.ed = 0
    · have E := Lib.hid (show openF B = true from by unfold openF; rw [hf, h1]; rfl)
      rw [h1] at c6
      clear hf
      go_enter Try.func32, Try.ntmps32
      go_wp2
      go_ret
      exact ⟨by rw [E.out]; try rfl, rfl⟩
    · have E := Lib.hid (show openF B = decide (B.ed = 2) from by unfold openF; rw [hf]; simp [h1])
      clear hf
      go_enter Try.func32, Try.ntmps32
      go_wp2
      go_ret
      exact ⟨by rw [E.out]; try rfl, rfl⟩
def doneF (B : Bf) : Bool := B.fin && decide (B.data.length = 0) && decide (B.ed = 3)
theorem done_any (b : Nat) (F : Nat → Prop) (B : Bf) (w : World) (h : Inv w b F B) :
    Calls Try.prog 13 #[.pointer (some ⟨b, 0, none⟩)] w fun e w' => e = .returned (.bool (doneF B)) ∧ w' = w := by
  obtain ⟨vd, vs, h⟩ := h
  obtain ⟨a, cap, rfl, hn⟩ := own_form h.rd
  obtain ⟨c0, c1, c2, c3, c4, c5, c6, fr⟩ := h.facts
  cases hf : B.fin
  · have E := Lib.hid (show doneF B = false from by unfold doneF; rw [hf]; rfl)
    rw [hf] at c5
    clear hf
    go_enter Try.func13, Try.ntmps13
    go_wp2
    go_ret
    exact ⟨by rw [E.out]; try rfl, rfl⟩
  · rw [hf] at c5
    by_cases h1 : B.data.length = 0
    · have E := Lib.hid (show doneF B = decide (B.ed = 3) from by unfold doneF; rw [hf, h1]; simp)
      rw [h1] at c2
      clear hf
      go_enter Try.func13, Try.ntmps13
      go_wp2
      go_ret
      exact ⟨by rw [E.out]; try rfl, rfl⟩
    · have E := Lib.hid (show doneF B = false from by unfold doneF; rw [hf]; simp [h1])
      have h2 : ¬ ((B.data.length : Int) = 0) := by omega
      clear hf
      go_enter Try.func13, Try.ntmps13
      go_wp2
      go_ret
      exact ⟨by rw [E.out]; try rfl, rfl⟩
end Go.Proofs.Ytmjekepiplibkaa
