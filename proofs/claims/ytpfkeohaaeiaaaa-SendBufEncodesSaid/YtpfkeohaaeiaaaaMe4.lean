/- Texts FSd FSe FSf Obj Append Append2 A of this claim, one behind the other. -/
import Derived.Test.YtpfkeohaaeiaaaaMe3
import Derived.Test.YtpfkeohaaeiaaaaMe1
import Derived.Laws.Rows
import Derived.Laws.AppendOwn
import Derived.Deep.Quiet
import Derived.Deep.AppendLies
import Derived.Laws.OwnMore
import Derived.OwnWalk
import Derived.Deep.AppendSrc
import Derived.Laws.CopyRow
import Derived.Deep.RegionHeld3
import Derived.BigQuiet
import Derived.Deep.QuietTactic
import Derived.StillTailTactics
import Derived.BigGuardPart
/- STREAM frames: the reader, and the parts that read. -/
namespace Go.Proofs.Ytpfkeohaaeiaaaa.frm
open Go.RowKit
/-- a reader's cells -/
def rdC (S : ByteArray) (a : Nat) : Array Value := #[.string S, .int .i64 a]
set_option maxRecDepth 100000 in
set_option maxHeartbeats 2000000 in
theorem rnum_any (R : Nat) (S : ByteArray) (a b : Nat) (n : Int) (w : World) (hs : S.size ≤ maxLen) (hd : decV (bytesOf S) a = (n, (b : Int), 0)) (h : w.heap[R]? = some (.cells (rdC S a) 55 (0, 0))) :
    Calls Try.prog 53 #[.pointer (some ⟨R, 0, none⟩)] w fun e w' => e = .returned (.int .i64 n) ∧ Blk R (rdC S b) 55 w w' := by
  have D := Lib.hid (fun wx => decode_any S (a : Int) wx hs)
  rw [hd] at D
  unfold trip rdC at *
  have r0 := at_whole h 0 rfl
  have r1 := at_whole h 1 rfl
  simp only [List.getElem_toArray, List.getElem_cons_zero, List.getElem_cons_succ] at r0 r1
  have H := Lib.hid h
  clear h hd hs
  go_enter Try.func53, Try.ntmps53
  go_wp2_with fail
  go_region_with (go_at_call 70; refine (D.out _).mono ?_; rintro e w2 ⟨rfl, hb⟩; have HB := Lib.hid hb; clear hb)
  all_goals
    have h2 := heap_below HB.out (show w.drew.heap[R]? = _ from H.out)
    have G := Lib.hid ((Blk.start H.out).trans ⟨h2, ⟨HB.out.os, HB.out.tape, HB.out.output, HB.out.size, fun k hk _ => HB.out.block k hk⟩⟩)
    have c1 := at_whole h2 1 rfl
    have f1 := frozen_whole h2 1
    simp only [List.getElem_toArray, List.getElem_cons_zero, List.getElem_cons_succ] at c1
    clear h2
    go_wp2
    go_ret
    exact ⟨rfl, G.out.set 1 _⟩
set_option maxRecDepth 100000 in
set_option maxHeartbeats 2000000 in
theorem rtake_any (R : Nat) (S : ByteArray) (a n : Nat) (w : World) (hs : S.size ≤ maxLen) (hn : a + n ≤ S.size) (h : w.heap[R]? = some (.cells (rdC S a) 55 (0, 0))) :
    Calls Try.prog 57 #[.pointer (some ⟨R, 0, none⟩), .int .i64 n] w fun e w' => e = .returned (.string (S.extract a (a + n))) ∧ Blk R (rdC S (a + n)) 55 w w' := by
  unfold rdC at *
  unfold maxLen at hs
  have r0 := at_whole h 0 rfl
  have r1 := at_whole h 1 rfl
  have f1 := frozen_whole h 1
  simp only [List.getElem_toArray, List.getElem_cons_zero, List.getElem_cons_succ] at r0 r1
  have H := Lib.hid h
  have e1 : IntKind.i64.wrap ((S.size : Int) - (a : Int)) = (S.size : Int) - (a : Int) := IntWalk.i64_in _ (by omega)
  have e2 : IntKind.i64.wrap ((a : Int) + (n : Int)) = (a : Int) + (n : Int) := IntWalk.i64_in _ (by omega)
  have e3 : IntKind.i64.wrap ((a : Int) + (n : Int) - (n : Int)) = (a : Int) := by rw [IntWalk.i64_in _ (by omega)]; omega
  have g1 : decide ((n : Int) > (S.size : Int) - (a : Int)) = false := decide_eq_false (by omega)
  have g2 : ((S.size : Int) - (a : Int) < (n : Int)) = False := eq_false (by omega)
  clear h
  go_enter Try.func57, Try.ntmps57
  go_wp2_with fail
  go_quiet (fail)
  go_wp2_with fail
  have G := Lib.hid (((Blk.start H.out).drewN nq).set 1 (.int .i64 ((a : Int) + (n : Int))))
  simp only [List.setIfInBounds_toArray, List.set_cons_zero, List.set_cons_succ] at G
  generalize World.setCell _ _ _ = W at G ⊢
  have q0 := at_whole G.out.1 0 rfl
  have q1 := at_whole G.out.1 1 rfl
  simp only [List.getElem_toArray, List.getElem_cons_zero, List.getElem_cons_succ] at q0 q1
  have t0 : ((a : Int) + (n : Int)).toNat = a + n := by omega
  have t1 : (a : Int) ≤ (a : Int) + (n : Int) := by omega
  have t2 : (a : Int) + (n : Int) ≤ (S.size : Int) := by omega
  have t3 : (0 : Int) ≤ (a : Int) := by omega
  clear r0 r1 f1
  go_quiet (fail)
  go_wp2
  go_ret
  have G2 := G.out
  rw [← Int.natCast_add] at G2
  exact ⟨rfl, G2.drewN _⟩
set_option maxRecDepth 100000 in
set_option maxHeartbeats 2000000 in
theorem get1_any (R f m : Nat) (S : ByteArray) (a b : Nat) (n : Int) (fc : Array Value) (w : World) (hs : S.size ≤ maxLen) (hd : decV (bytesOf S) a = (n, (b : Int), 0)) (h : w.heap[R]? = some (.cells (rdC S a) 55 (0, 0)))
    (hf : w.heap[f]? = some (.cells fc 33 (0, 0))) (hz : fc.size = 13) (c1 : w.cell? ⟨m + 1, 0, none⟩ = some (fnv 32)) :
    Calls Try.prog 52 #[.pointer (some ⟨R, 0, none⟩), .pointer (some ⟨f, 0, none⟩), .pointer (some ⟨m + 1, 0, none⟩)] w fun e w' => e = .returned (.tuple #[]) ∧ ∃ w1, Blk R (rdC S b) 55 w w1 ∧ w' = w1.setCell ⟨f, 1, none⟩ (.int .i64 n) := by
  unfold fnv at c1
  have hne : f ≠ R := fun e => by subst e; rw [h] at hf; cases hf
  have D := Lib.hid (rnum_any R S a b n w hs hd h)
  have HF := Lib.hid hf
  clear h hf hd hs
  go_enter Try.func52, Try.ntmps52
  go_wp2_with (first | (go_at_call 32; refine (fld1_any f _).mono ?_; rintro e w1 ⟨rfl, rfl⟩) | (go_at_call 53; refine D.out.mono ?_; rintro e w2 ⟨rfl, hb⟩; have h2 := heap_grown hb.2 HF.out hne; have k8 : w2.cell? ⟨f, 1, none⟩ = some fc[1] := (cell_whole h2 1).trans (by simp [hz]); have f8 := frozen_whole h2 1; have HB := Lib.hid hb; clear hb h2))
  go_end0
  exact ⟨rfl, w2, HB.out, rfl⟩
set_option maxRecDepth 100000 in
set_option maxHeartbeats 2000000 in
theorem get2_any (R f m : Nat) (S : ByteArray) (a b : Nat) (n : Int) (fc : Array Value) (w : World) (hs : S.size ≤ maxLen) (hd : decV (bytesOf S) a = (n, (b : Int), 0)) (h : w.heap[R]? = some (.cells (rdC S a) 55 (0, 0)))
    (hf : w.heap[f]? = some (.cells fc 33 (0, 0))) (hz : fc.size = 13) (c1 : w.cell? ⟨m + 1, 0, none⟩ = some (fnv 36)) :
    Calls Try.prog 52 #[.pointer (some ⟨R, 0, none⟩), .pointer (some ⟨f, 0, none⟩), .pointer (some ⟨m + 1, 0, none⟩)] w fun e w' => e = .returned (.tuple #[]) ∧ ∃ w1, Blk R (rdC S b) 55 w w1 ∧ w' = w1.setCell ⟨f, 2, none⟩ (.int .i64 n) := by
  unfold fnv at c1
  have hne : f ≠ R := fun e => by subst e; rw [h] at hf; cases hf
  have D := Lib.hid (rnum_any R S a b n w hs hd h)
  have HF := Lib.hid hf
  clear h hf hd hs
  go_enter Try.func52, Try.ntmps52
  go_wp2_with (first | (go_at_call 36; refine (fld2_any f _).mono ?_; rintro e w1 ⟨rfl, rfl⟩) | (go_at_call 53; refine D.out.mono ?_; rintro e w2 ⟨rfl, hb⟩; have h2 := heap_grown hb.2 HF.out hne; have k8 : w2.cell? ⟨f, 2, none⟩ = some fc[2] := (cell_whole h2 2).trans (by simp [hz]); have f8 := frozen_whole h2 2; have HB := Lib.hid hb; clear hb h2))
  go_end0
  exact ⟨rfl, w2, HB.out, rfl⟩
set_option maxRecDepth 100000 in
set_option maxHeartbeats 2000000 in
theorem getS_any (R f : Nat) (S : ByteArray) (a b n : Nat) (fc : Array Value) (w : World) (hs : S.size ≤ maxLen) (hd : decV (bytesOf S) a = ((n : Int), (b : Int), 0)) (hn : b + n ≤ S.size) (h : w.heap[R]? = some (.cells (rdC S a) 55 (0, 0)))
    (hf : w.heap[f]? = some (.cells fc 33 (0, 0))) (hz : fc.size = 13) :
    Calls Try.prog 56 #[.pointer (some ⟨R, 0, none⟩), .pointer (some ⟨f, 0, none⟩)] w fun e w' => e = .returned (.tuple #[]) ∧ ∃ w1, Blk R (rdC S (b + n)) 55 w w1 ∧ w' = w1.setCell ⟨f, 3, none⟩ (.string (S.extract b (b + n))) := by
  have hne : f ≠ R := fun e => by subst e; rw [h] at hf; cases hf
  have D := Lib.hid (rnum_any R S a b n w hs hd h)
  have T := Lib.hid (fun (w1 : World) (hb : Blk R (rdC S b) 55 w w1) => (rtake_any R S b n w1 hs hn hb.1).mono fun _ _ hh => (⟨hh.1, hb.trans hh.2⟩ : _ ∧ _))
  have HF := Lib.hid hf
  clear h hf hd hs
  go_enter Try.func56, Try.ntmps56
  go_wp2_with (first | (go_at_call 53; refine D.out.mono ?_; rintro e w1 ⟨rfl, hb⟩; have HB := Lib.hid hb; clear hb) | (go_at_call 57; refine (T.out _ HB.out).mono ?_; rintro e w2 ⟨rfl, hb⟩; have h2 := heap_grown hb.2 HF.out hne; have k8 : w2.cell? ⟨f, 3, none⟩ = some fc[3] := (cell_whole h2 3).trans (by simp [hz]); have f8 := frozen_whole h2 3; have HB2 := Lib.hid hb; clear hb h2))
  go_end0
  exact ⟨rfl, w2, HB2.out, rfl⟩
end Go.Proofs.Ytpfkeohaaeiaaaa.frm
/- STREAM frames: what lies in the encoding; Decode's closure. Printed by gen/mkFSe.py. -/
namespace Go.Proofs.Ytpfkeohaaeiaaaa.frm
open Go.RowKit
section
variable {sid off : Int} {s : ByteArray} {fin : Bool}
def sP1 (sid : Int) : Nat := 1 + (encV sid).length
def sP2 (sid off : Int) : Nat := sP1 sid + (encV off).length
def sP3 (sid off : Int) (s : ByteArray) : Nat := sP2 sid off + (encV s.size).length
theorem sfS_bytes (sid off : Int) (s : ByteArray) (fin : Bool) : bytesOf (sfS sid off s fin) = (if fin then 9 else 8) :: (encV sid ++ (encV off ++ (encV s.size ++ bytesOf s))) := by
  unfold sfS
  rw [bytesOf_append, bytesOf_append, bytesOf_append, bytesOf_append, bytes_of_nums _ (encV_range _), bytes_of_nums _ (encV_range _), bytes_of_nums _ (encV_range _), bytes_of_nums _ (by cases fin <;> decide)]
  simp
theorem cls_ok {n : Int} (h0 : 0 ≤ n) (h1 : n ≤ 4611686018427387903) : 0 ≤ cls n := by unfold cls; split; omega; split; omega; split; omega; split; omega; omega
theorem sfS_size (sid off : Int) (s : ByteArray) (fin : Bool) : (sfS sid off s fin).size = sP3 sid off s + s.size := by
  rw [← bytesOf_length, sfS_bytes]
  simp only [List.length_cons, List.length_append, bytesOf_length]
  unfold sP3 sP2 sP1; omega
theorem sfS_d1 (h : SfOk sid off s) : decV (bytesOf (sfS sid off s fin)) (1 : Nat) = (sid, (sP1 sid : Int), 0) := by
  have := decV_enc sid (cls_ok h.a h.b) [if fin then 9 else 8] (encV off ++ (encV s.size ++ bytesOf s))
  rw [sfS_bytes]
  rw [← encV_wid] at this
  simpa [sP1] using this
theorem sfS_d2 (h : SfOk sid off s) : decV (bytesOf (sfS sid off s fin)) (sP1 sid) = (off, (sP2 sid off : Int), 0) := by
  have h1 := h.d
  have := decV_enc off (cls_ok h.c (by omega)) ((if fin then 9 else 8) :: encV sid) (encV s.size ++ bytesOf s)
  rw [sfS_bytes]
  rw [← encV_wid] at this
  have e : ((if fin then (9 : Int) else 8) :: encV sid).length = sP1 sid := by simp [sP1]; omega
  rw [e] at this
  unfold sP2
  rw [Int.natCast_add]
  simpa using this
theorem sfS_d3 (h : SfOk sid off s) : decV (bytesOf (sfS sid off s fin)) (sP2 sid off) = ((s.size : Int), (sP3 sid off s : Int), 0) := by
  have h1 := h.e
  have := decV_enc (s.size : Int) (cls_ok (by omega) (by omega)) ((if fin then 9 else 8) :: (encV sid ++ encV off)) (bytesOf s)
  rw [sfS_bytes]
  rw [← encV_wid] at this
  have e : ((if fin then (9 : Int) else 8) :: (encV sid ++ encV off)).length = sP2 sid off := by simp [sP2, sP1]; omega
  rw [e] at this
  unfold sP3
  rw [Int.natCast_add]
  simpa using this
theorem sfS_text (sid off : Int) (s : ByteArray) (fin : Bool) : (sfS sid off s fin).extract (sP3 sid off s) (sP3 sid off s + s.size) = s := by
  have e : sfS sid off s fin = (((strOfNums [if fin then 9 else 8] ++ strOfNums (encV sid)) ++ strOfNums (encV off)) ++ strOfNums (encV s.size)) ++ s := by unfold sfS; rw [ByteArray.append_assoc (c := s)]
  have z : ((((strOfNums [if fin then 9 else 8] ++ strOfNums (encV sid)) ++ strOfNums (encV off)) ++ strOfNums (encV s.size))).size = sP3 sid off s := by
    simp only [ByteArray.size_append, strOf_size]
    unfold sP3 sP2 sP1; simp
  rw [e]
  exact ByteArray.extract_append_eq_right z.symm (by rw [z])
theorem sfS_head (sid off : Int) (s : ByteArray) (fin : Bool) : ∃ h : 0 < (sfS sid off s fin).size, (((sfS sid off s fin)[0]'h).toNat : Int) = if fin then 9 else 8 := by
  have h : 0 < (sfS sid off s fin).size := by rw [sfS_size]; unfold sP3 sP2 sP1; omega
  refine ⟨h, ?_⟩
  have := bytesOf_at (sfS sid off s fin) 0 h
  rw [sfS_bytes] at this
  simpa using this.symm
theorem sfS_small (h : SfOk sid off s) : (sfS sid off s fin).size ≤ 1049 := by
  have := h.e
  have := encV_len sid
  have := encV_len off
  have := encV_len s.size
  rw [sfS_size]; unfold sP3 sP2 sP1; omega
end
/-- only the blocks f and R have turned -/
structure Two (f R : Nat) (w w' : World) : Prop where
  os : w'.os = w.os
  tape : w'.tape = w.tape
  output : w'.output = w.output
  size : w.heap.size ≤ w'.heap.size
  block : ∀ k, k < w.heap.size → k ≠ f → k ≠ R → w'.heap[k]? = w.heap[k]?
theorem Two.refl (f R : Nat) (w : World) : Two f R w w := ⟨rfl, rfl, rfl, Nat.le_refl _, fun _ _ _ _ => rfl⟩
theorem Two.trans {f R : Nat} {a b c : World} (h : Two f R a b) (k : Two f R b c) : Two f R a c :=
  ⟨k.os.trans h.os, k.tape.trans h.tape, k.output.trans h.output, Nat.le_trans h.size k.size, fun j hj h1 h2 => (k.block j (Nat.lt_of_lt_of_le hj h.size) h1 h2).trans (h.block j hj h1 h2)⟩
theorem Two.below {f R : Nat} {a b c : World} (h : Two f R a b) (k : Below b.heap.size b c) : Two f R a c := h.trans ⟨k.os, k.tape, k.output, k.size, fun j hj _ _ => k.block j hj⟩
theorem Two.grown {f R : Nat} {a b c : World} (h : Two f R a b) (k : b.grownBy c (some R)) : Two f R a c := h.trans ⟨k.os, k.tape, k.output, k.size, fun j hj _ h2 => k.block j hj (fun e => h2 (by cases e; rfl))⟩
theorem Two.set {f R : Nat} {a b : World} (h : Two f R a b) (i : Nat) (v : Value) : Two f R a (b.setCell ⟨f, i, none⟩ v) :=
  ⟨h.os, h.tape, h.output, by simpa using h.size, fun j hj h1 h2 => (heap_setCell_other b _ j v (fun e => h1 (by first | exact e | exact e.symm))).trans (h.block j hj h1 h2)⟩
/-- behind w1: the frame's block, the reader's, the reader's variable -/
structure Db (w1 : World) (f R v : Nat) (S : ByteArray) (a : Nat) (fc : Array Value) (W : World) : Prop where
  two : Two f R w1 W
  hf : W.heap[f]? = some (.cells fc 33 (0, 0))
  hR : W.heap[R]? = some (.cells (rdC S a) 55 (0, 0))
  hv : W.heap[v]? = some (.cells #[.pointer (some ⟨R, 0, none⟩)] 53 (0, 0))
  hf1 : ∃ c, w1.heap[f]? = some (.cells c 33 (0, 0))
  hR1 : ∃ c, w1.heap[R]? = some (.cells c 55 (0, 0))
section
variable {w1 W W' : World} {f R v a : Nat} {S : ByteArray} {fc : Array Value}
theorem Db.below (h : Db w1 f R v S a fc W) (hb : Below W.heap.size W W') : Db w1 f R v S a fc W' := ⟨h.two.below hb, heap_below hb h.hf, heap_below hb h.hR, heap_below hb h.hv, h.hf1, h.hR1⟩
theorem Db.alloc (h : Db w1 f R v S a fc W) (o : Obj) : Db w1 f R v S a fc (W.alloc o) := h.below ((Below.refl _ _).alloc (Nat.le_refl _) _)
theorem Db.blk (h : Db w1 f R v S a fc W) {a' : Nat} (hb : Blk R (rdC S a') 55 W W') : Db w1 f R v S a' fc W' :=
  ⟨h.two.grown hb.2, heap_grown hb.2 h.hf (fun e => by subst e; have := h.hf; rw [h.hR] at this; cases this), hb.1, heap_grown hb.2 h.hv (fun e => by subst e; have := h.hv; rw [h.hR] at this; cases this), h.hf1, h.hR1⟩
theorem Db.set (h : Db w1 f R v S a fc W) (i : Nat) (x : Value) : Db w1 f R v S a (fc.setIfInBounds i x) (W.setCell ⟨f, i, none⟩ x) :=
  ⟨h.two.set i x, heap_set x h.hf, (heap_setCell_other W _ R x (fun e => by have e : f = R := (by first | exact e | exact e.symm); subst e; have := h.hf; rw [h.hR] at this; cases this)).trans h.hR, (heap_setCell_other W _ v x (fun e => by have e : f = v := (by first | exact e | exact e.symm); subst e; have := h.hf; rw [h.hv] at this; cases this)).trans h.hv, h.hf1, h.hR1⟩
theorem Db.old (h : Db w1 f R v S a fc W) {k : Nat} {cs : Array Value} {T : TypeId} (hk : w1.heap[k]? = some (.cells cs T (0, 0))) (h1 : T ≠ 33) (h2 : T ≠ 55) : W.heap[k]? = some (.cells cs T (0, 0)) := by
  refine (h.two.block k (heap_lt hk) (fun e => ?_) (fun e => ?_)).trans hk
  · subst e; obtain ⟨c, hc⟩ := h.hf1; rw [hk] at hc; cases hc; exact h1 rfl
  · subst e; obtain ⟨c, hc⟩ := h.hR1; rw [hk] at hc; cases hc; exact h2 rfl
end
set_option maxRecDepth 100000 in
set_option maxHeartbeats 8000000 in
theorem decl_any (f R v : Nat) (sid off : Int) (s : ByteArray) (fin : Bool) (w : World) (hk : SfOk sid off s) (hf : w.heap[f]? = some (.cells (strE 0 0 ⟨#[]⟩ fin) 33 (0, 0)))
    (hR : w.heap[R]? = some (.cells (rdC (sfS sid off s fin) 1) 55 (0, 0))) (hv : w.heap[v]? = some (.cells #[.pointer (some ⟨R, 0, none⟩)] 53 (0, 0))) :
    Calls Try.prog 24 #[.pointer (some ⟨f, 0, none⟩), .pointer (some ⟨v, 0, none⟩)] w fun e w' => e = .returned (.tuple #[]) ∧ Two f R w w' ∧ w'.heap[f]? = some (.cells (strE sid off s fin) 33 (0, 0)) ∧
      w'.heap[R]? = some (.cells (rdC (sfS sid off s fin) (sfS sid off s fin).size) 55 (0, 0)) := by
  have E := Lib.hid (fun wx => encode_str sid off s fin wx hk.a hk.b hk.c hk.d hk.e)
  have D1 := Lib.hid (sfS_d1 (fin := fin) hk)
  have D2 := Lib.hid (sfS_d2 (fin := fin) hk)
  have D3 := Lib.hid (sfS_d3 (fin := fin) hk)
  have DT := Lib.hid (sfS_text sid off s fin)
  have DZ := Lib.hid (sfS_size sid off s fin)
  have hsm : (sfS sid off s fin).size ≤ maxLen := by have := sfS_small (fin := fin) hk; unfold maxLen; omega
  have HSM := Lib.hid hsm
  have Q0 := Lib.hid (show ∀ w1, Below w.heap.size w w1 → Db w1 f R v (sfS sid off s fin) 1 (strE 0 0 ⟨#[]⟩ fin) w1 from fun w1 hb => ⟨Two.refl _ _ _, heap_below hb hf, heap_below hb hR, heap_below hb hv, ⟨_, heap_below hb hf⟩, ⟨_, heap_below hb hR⟩⟩)
  generalize sfS sid off s fin = S at *
  have y := at_whole hf 0 rfl
  have HY := Lib.hid (fun (w1 : World) (hb : Below w.heap.size w w1) => (show w1.cell? ⟨f, 0, none⟩ = some (.int .i64 8) from at_whole (heap_below hb hf) 0 rfl))
  clear hk hf hR hv hsm
  unfold strE at *
  simp only [List.getElem_toArray, List.getElem_cons_zero] at y
  go_enter Try.func24, Try.ntmps24
  go_wp2_with fail
  go_region_with ((go_at_call 25; refine (parts_str _).mono ?_; rintro e w1 ⟨M, g, n1, n5, n8, rfl, hb, hg, hn, -, hlook⟩; have hb2 := below_drew hb; have y1 := HY.out _ hb2; have HG := Lib.hid hn; have G1 := Lib.hid hg; have HB := Lib.hid hb2; clear hb hb2 hg hn))
  all_goals
    have E0 := Lib.hid (Q0.out _ HB.out)
    clear y1 hlook Q0 HY y
    go_wp2_with fail
    refine wp_loop_rounds 4 ?_
    rw [rounds_succ]
    have pa0 := at_whole (E0.out.old G1.out (by decide) (by decide)) 0 rfl
    have pb0 := at_whole (E0.out.old G1.out (by decide) (by decide)) 1 rfl
    have pc0 := at_whole (E0.out.old G1.out (by decide) (by decide)) 2 rfl
    simp only [intP, txtP, fnv] at pa0 pb0 pc0
    have EA0 := Lib.hid (E0.out.alloc (.cells (intP n1) 63))
    simp only [intP] at EA0
    have pv0 := at_whole EA0.out.hv 0 rfl
    simp only [List.getElem_toArray, List.getElem_cons_zero] at pv0
    go_wp2_with fail
    clear pv0
    generalize w1.alloc _ = WA0 at EA0 ⊢
    refine (get1_any R f n1 S (1) (sP1 sid) _ _ _ HSM.out D1.out EA0.out.hR EA0.out.hf rfl (at_whole (EA0.out.old HG.out.2.1 (by decide) (by decide)) 0 rfl)).mono ?_
    rintro e WB0 ⟨rfl, WC0, hb0, rfl⟩
    have EB0 := Lib.hid ((EA0.out.blk hb0).set 1 (.int .i64 sid))
    simp only [List.setIfInBounds_toArray, List.set_cons_zero, List.set_cons_succ] at EB0
    generalize WC0.setCell _ _ = WD0 at EB0 ⊢
    clear hb0 EA0 E0 pa0 pb0 pc0
    go_wp2_with fail
    rw [rounds_succ]
    have pa1 := at_whole (EB0.out.old G1.out (by decide) (by decide)) 3 rfl
    have pb1 := at_whole (EB0.out.old G1.out (by decide) (by decide)) 4 rfl
    have pc1 := at_whole (EB0.out.old G1.out (by decide) (by decide)) 5 rfl
    simp only [intP, txtP, fnv] at pa1 pb1 pc1
    have EA1 := Lib.hid (EB0.out.alloc (.cells (intP n5) 63))
    simp only [intP] at EA1
    have pv1 := at_whole EA1.out.hv 0 rfl
    simp only [List.getElem_toArray, List.getElem_cons_zero] at pv1
    go_wp2_with fail
    clear pv1
    generalize WD0.alloc _ = WA1 at EA1 ⊢
    refine (get2_any R f n5 S (sP1 sid) (sP2 sid off) _ _ _ HSM.out D2.out EA1.out.hR EA1.out.hf rfl (at_whole (EA1.out.old HG.out.2.2.2.1 (by decide) (by decide)) 0 rfl)).mono ?_
    rintro e WB1 ⟨rfl, WC1, hb1, rfl⟩
    have EB1 := Lib.hid ((EA1.out.blk hb1).set 2 (.int .i64 off))
    simp only [List.setIfInBounds_toArray, List.set_cons_zero, List.set_cons_succ] at EB1
    generalize WC1.setCell _ _ = WD1 at EB1 ⊢
    clear hb1 EA1 EB0 pa1 pb1 pc1
    go_wp2_with fail
    rw [rounds_succ]
    have pa2 := at_whole (EB1.out.old G1.out (by decide) (by decide)) 6 rfl
    have pb2 := at_whole (EB1.out.old G1.out (by decide) (by decide)) 7 rfl
    have pc2 := at_whole (EB1.out.old G1.out (by decide) (by decide)) 8 rfl
    simp only [intP, txtP, fnv] at pa2 pb2 pc2
    have EA2 := Lib.hid (EB1.out.alloc (.cells (txtP n8) 63))
    simp only [txtP, fnv] at EA2
    have pv2 := at_whole EA2.out.hv 0 rfl
    simp only [List.getElem_toArray, List.getElem_cons_zero] at pv2
    go_wp2_with fail
    clear pv2
    generalize WD1.alloc _ = WA2 at EA2 ⊢
    refine (getS_any R f S (sP2 sid off) (sP3 sid off s) s.size _ _ HSM.out D3.out (by rw [DZ.out]; exact Nat.le_refl _) EA2.out.hR EA2.out.hf rfl).mono ?_
    rintro e WB2 ⟨rfl, WC2, hb2, rfl⟩
    have EB2 := Lib.hid ((EA2.out.blk hb2).set 3 (.string (S.extract (sP3 sid off s) (sP3 sid off s + s.size))))
    simp only [List.setIfInBounds_toArray, List.set_cons_zero, List.set_cons_succ] at EB2
    generalize WC2.setCell _ _ = WD2 at EB2 ⊢
    clear hb2 EA2 EB1 pa2 pb2 pc2
    go_wp2_with fail
    rw [DT.out, ← DZ.out] at EB2
    rw [rounds_succ]
    go_wp2_with (first | (refine wpList_load_row rfl 33 _ rfl f rfl 33 _ (0, 0) _ EB2.out.hf Try.underlying33 rfl size33 ?_) | (go_at_call 23; refine (E.out _).mono ?_; rintro e W9 ⟨rfl, hb9⟩))
    go_end0
    have F := EB2.out.below hb9
    exact ⟨rfl, (Two.refl f R w).trans (Two.trans ⟨HB.out.os, HB.out.tape, HB.out.output, HB.out.size, fun k hk _ _ => HB.out.block k hk⟩ F.two), F.hf, F.hR⟩
end Go.Proofs.Ytpfkeohaaeiaaaa.frm
/- STREAM frames: Decode. -/
namespace Go.Proofs.Ytpfkeohaaeiaaaa.frm
open Go.RowKit
theorem box4 (w : World) (o0 o1 o2 o3 : Obj) : ((((w.alloc o0).alloc o1).alloc o2).alloc o3).heap[w.heap.size]? = some o0 ∧ ((((w.alloc o0).alloc o1).alloc o2).alloc o3).heap[w.heap.size + 1]? = some o1 ∧ ((((w.alloc o0).alloc o1).alloc o2).alloc o3).heap[w.heap.size + 1 + 1]? = some o2 ∧
    ((((w.alloc o0).alloc o1).alloc o2).alloc o3).heap[w.heap.size + 1 + 1 + 1]? = some o3 ∧ Below w.heap.size w ((((w.alloc o0).alloc o1).alloc o2).alloc o3) ∧ ((((w.alloc o0).alloc o1).alloc o2).alloc o3).heap.size = w.heap.size + 1 + 1 + 1 + 1 := by
  obtain ⟨a, a', a'', b, c⟩ := box3 w o0 o1 o2
  obtain ⟨d, e, f⟩ := box1 (((w.alloc o0).alloc o1).alloc o2) o3
  rw [c] at d f
  exact ⟨(e.block _ (by omega)).trans a, (e.block _ (by omega)).trans a', (e.block _ (by omega)).trans a'', d, b.trans (e.mono (by omega)), f⟩
theorem results_cell_tmp2 {P : Program} {fn : Func} {p q r : Tmp} {ty : TypeId} (h : fn.results = #[.cell p ty, .tmp q, .tmp r]) (tmps : Array Value) (w : World) (g : Nat) (t : TypeId) (cs : Array Value) (fr : Nat × Nat) (d : TypeDesc)
    (hp : tmps.getD p undef = .pointer (some ⟨g, 0, none⟩)) (hg : w.heap[g]? = some (.cells cs t fr))
    (hu : P.underlying ty = some d) (hd : (match d with | .struct _ | .array _ _ => true | _ => false) = true) (hi : (P.info? ty).map (·.size) = some cs.size) :
    (results fn tmps).run P w = .ok (.tuple #[.agg cs, tmps.getD q undef, tmps.getD r undef]) w := by
  have hp' : tmps[p]?.getD undef = .pointer (some ⟨g, 0, none⟩) := by simpa using hp
  simp [results, h, hp', asAddr, run_loadVar_row w g t ty cs fr d hg hu hd hi]
def strZ : Array Value := #[.int .i64 0, .int .i64 0, .int .i64 0, .string ⟨#[]⟩, .bool false, .int .i64 0, .int .i64 0, .bool false, .int .i64 0, .slice none 0 0, .int .i64 0, .int .i64 0, .string ⟨#[]⟩]
set_option maxRecDepth 100000 in
set_option maxHeartbeats 4000000 in
theorem DecodeF (sid off : Int) (s : ByteArray) (w : World) (hk : SfOk sid off s) :
    Calls Try.prog 12 #[.string (sfS sid off s false), .int .i64 0] w fun e w' => e = .returned (.tuple #[.agg (strE sid off s false), .int .i64 (sfS sid off s false).size, .int .i64 0]) ∧ Below w.heap.size w w' := by
  have X := Lib.hid (box4 w (.cells strZ 33) (.cells (strE 0 0 ⟨#[]⟩ false) 33) (.cells (rdC (sfS sid off s false) 1) 55) (.cells #[.pointer (some ⟨w.heap.size + 1 + 1, 0, none⟩)] 53))
  have E := Lib.hid (guard24 (w.heap.size + 1) (w.heap.size + 1 + 1 + 1) _ _ (decl_any (w.heap.size + 1) (w.heap.size + 1 + 1) (w.heap.size + 1 + 1 + 1) sid off s false _ hk X.out.2.1 X.out.2.2.1 X.out.2.2.2.1))
  have hmf : ∀ (fn : Fn) (first cap : Array Value) (w : World), (Instr.makeFunc fn first cap).run Try.prog w = .ok (.func fn first cap) w := fun _ _ _ _ => rfl
  obtain ⟨h0, hh⟩ := sfS_head sid off s false
  have hsm := sfS_small (fin := false) hk
  clear hk
  generalize sfS sid off s false = S at *
  simp only [Bool.false_eq_true, if_false] at hh
  unfold strE strZ rdC at *
  have z0 : ((S.size : Int) < 0) = False := eq_false (by omega)
  have z1 : ((0 : Int) = (S.size : Int)) = False := eq_false (by omega)
  have z2 : ((0 : Int) == (S.size : Int)) = false := by rw [beq_eq_false_iff_ne]; omega
  go_enter Try.func12, Try.ntmps12
  go_wp2_with fail
  refine E.out.mono ?_
  rintro e w2 ⟨rfl, T, hf, hR⟩
  have hz := X.out.2.2.2.2.2
  have hZ := Lib.hid ((T.block w.heap.size (by omega) (by omega) (by omega)).trans X.out.1)
  have hV := (T.block (w.heap.size + 1 + 1 + 1) (by omega) (by omega) (by omega)).trans X.out.2.2.2.1
  have HF := Lib.hid hf
  have HB : Hid (Below w.heap.size w w2) := Lib.hid (X.out.2.2.2.2.1.trans ⟨T.os, T.tape, T.output, T.size, fun k hk => T.block k (by omega) (by omega) (by omega)⟩)
  have r1 := at_whole hR 1 rfl
  have v0 := at_whole hV 0 rfl
  simp only [List.getElem_toArray, List.getElem_cons_zero, List.getElem_cons_succ] at r1 v0
  clear hf hR hV hz T hh z0 z1 z2 X E hmf
  go_wp2_with fail
  have y0 := at_whole HF.out 0 rfl
  have y1 := at_whole HF.out 1 rfl
  have y2 := at_whole HF.out 2 rfl
  have y3 := at_whole HF.out 3 rfl
  have y4 := at_whole HF.out 4 rfl
  have y5 := at_whole HF.out 5 rfl
  have y6 := at_whole HF.out 6 rfl
  have y7 := at_whole HF.out 7 rfl
  have y8 := at_whole HF.out 8 rfl
  have y9 := at_whole HF.out 9 rfl
  have y10 := at_whole HF.out 10 rfl
  have y11 := at_whole HF.out 11 rfl
  have y12 := at_whole HF.out 12 rfl
  simp only [List.getElem_toArray, List.getElem_cons_zero, List.getElem_cons_succ] at y0 y1 y2 y3 y4 y5 y6 y7 y8 y9 y10 y11 y12
  have x0 := at_whole hZ.out 0 rfl
  have k0 := frozen_whole hZ.out 0
  have x1 := at_whole hZ.out 1 rfl
  have k1 := frozen_whole hZ.out 1
  have x2 := at_whole hZ.out 2 rfl
  have k2 := frozen_whole hZ.out 2
  have x3 := at_whole hZ.out 3 rfl
  have k3 := frozen_whole hZ.out 3
  have x4 := at_whole hZ.out 4 rfl
  have k4 := frozen_whole hZ.out 4
  have x5 := at_whole hZ.out 5 rfl
  have k5 := frozen_whole hZ.out 5
  have x6 := at_whole hZ.out 6 rfl
  have k6 := frozen_whole hZ.out 6
  have x7 := at_whole hZ.out 7 rfl
  have k7 := frozen_whole hZ.out 7
  have x8 := at_whole hZ.out 8 rfl
  have k8 := frozen_whole hZ.out 8
  have x9 := at_whole hZ.out 9 rfl
  have k9 := frozen_whole hZ.out 9
  have x10 := at_whole hZ.out 10 rfl
  have k10 := frozen_whole hZ.out 10
  have x11 := at_whole hZ.out 11 rfl
  have k11 := frozen_whole hZ.out 11
  have x12 := at_whole hZ.out 12 rfl
  have k12 := frozen_whole hZ.out 12
  simp only [List.getElem_toArray, List.getElem_cons_zero, List.getElem_cons_succ] at x0 x1 x2 x3 x4 x5 x6 x7 x8 x9 x10 x11 x12
  go_region
  have G := ((((((((((((((Blk.start (show w2.heap[w.heap.size]? = some (.cells _ 33 (0, 0)) from hZ.out)).set 0 (.int .i64 8)).set 1 (.int .i64 sid)).set 2 (.int .i64 off)).set 3 (.string s)).set 4 (.bool false)).set 5 (.int .i64 0)).set 6 (.int .i64 0)).set 7 (.bool false)).set 8 (.int .i64 0)).set 9 (.slice none 0 0)).set 10 (.int .i64 0)).set 11 (.int .i64 0)).set 12 (.string ⟨#[]⟩))
  simp only [List.setIfInBounds_toArray, List.set_cons_zero, List.set_cons_succ] at G
  have HG := Lib.hid (And.intro G.drew.1 (below_grown HB.out G.drew.2 (Nat.le_refl _)))
  clear G
  generalize (World.drew (World.setCell _ _ _)) = W at HG ⊢
  go_wp2
  refine bodyPost_ret (results_cell_tmp2 rfl _ _ _ 33 _ (0, 0) _ rfl HG.out.1 Try.underlying33 rfl size33) rfl ⟨rfl, HG.out.2⟩
set_option maxRecDepth 100000 in
set_option maxHeartbeats 4000000 in
theorem DecodeT (sid off : Int) (s : ByteArray) (w : World) (hk : SfOk sid off s) :
    Calls Try.prog 12 #[.string (sfS sid off s true), .int .i64 0] w fun e w' => e = .returned (.tuple #[.agg (strE sid off s true), .int .i64 (sfS sid off s true).size, .int .i64 0]) ∧ Below w.heap.size w w' := by
  have X := Lib.hid (box4 w (.cells strZ 33) (.cells (strE 0 0 ⟨#[]⟩ true) 33) (.cells (rdC (sfS sid off s true) 1) 55) (.cells #[.pointer (some ⟨w.heap.size + 1 + 1, 0, none⟩)] 53))
  have E := Lib.hid (guard24 (w.heap.size + 1) (w.heap.size + 1 + 1 + 1) _ _ (decl_any (w.heap.size + 1) (w.heap.size + 1 + 1) (w.heap.size + 1 + 1 + 1) sid off s true _ hk X.out.2.1 X.out.2.2.1 X.out.2.2.2.1))
  have hmf : ∀ (fn : Fn) (first cap : Array Value) (w : World), (Instr.makeFunc fn first cap).run Try.prog w = .ok (.func fn first cap) w := fun _ _ _ _ => rfl
  obtain ⟨h0, hh⟩ := sfS_head sid off s true
  have hsm := sfS_small (fin := true) hk
  clear hk
  generalize sfS sid off s true = S at *
  simp only [if_true] at hh
  unfold strE strZ rdC at *
  have z0 : ((S.size : Int) < 0) = False := eq_false (by omega)
  have z1 : ((0 : Int) = (S.size : Int)) = False := eq_false (by omega)
  have z2 : ((0 : Int) == (S.size : Int)) = false := by rw [beq_eq_false_iff_ne]; omega
  go_enter Try.func12, Try.ntmps12
  go_wp2_with fail
  refine E.out.mono ?_
  rintro e w2 ⟨rfl, T, hf, hR⟩
  have hz := X.out.2.2.2.2.2
  have hZ := Lib.hid ((T.block w.heap.size (by omega) (by omega) (by omega)).trans X.out.1)
  have hV := (T.block (w.heap.size + 1 + 1 + 1) (by omega) (by omega) (by omega)).trans X.out.2.2.2.1
  have HF := Lib.hid hf
  have HB : Hid (Below w.heap.size w w2) := Lib.hid (X.out.2.2.2.2.1.trans ⟨T.os, T.tape, T.output, T.size, fun k hk => T.block k (by omega) (by omega) (by omega)⟩)
  have r1 := at_whole hR 1 rfl
  have v0 := at_whole hV 0 rfl
  simp only [List.getElem_toArray, List.getElem_cons_zero, List.getElem_cons_succ] at r1 v0
  clear hf hR hV hz T hh z0 z1 z2 X E hmf
  go_wp2_with fail
  have y0 := at_whole HF.out 0 rfl
  have y1 := at_whole HF.out 1 rfl
  have y2 := at_whole HF.out 2 rfl
  have y3 := at_whole HF.out 3 rfl
  have y4 := at_whole HF.out 4 rfl
  have y5 := at_whole HF.out 5 rfl
  have y6 := at_whole HF.out 6 rfl
  have y7 := at_whole HF.out 7 rfl
  have y8 := at_whole HF.out 8 rfl
  have y9 := at_whole HF.out 9 rfl
  have y10 := at_whole HF.out 10 rfl
  have y11 := at_whole HF.out 11 rfl
  have y12 := at_whole HF.out 12 rfl
  simp only [List.getElem_toArray, List.getElem_cons_zero, List.getElem_cons_succ] at y0 y1 y2 y3 y4 y5 y6 y7 y8 y9 y10 y11 y12
  have x0 := at_whole hZ.out 0 rfl
  have k0 := frozen_whole hZ.out 0
  have x1 := at_whole hZ.out 1 rfl
  have k1 := frozen_whole hZ.out 1
  have x2 := at_whole hZ.out 2 rfl
  have k2 := frozen_whole hZ.out 2
  have x3 := at_whole hZ.out 3 rfl
  have k3 := frozen_whole hZ.out 3
  have x4 := at_whole hZ.out 4 rfl
  have k4 := frozen_whole hZ.out 4
  have x5 := at_whole hZ.out 5 rfl
  have k5 := frozen_whole hZ.out 5
  have x6 := at_whole hZ.out 6 rfl
  have k6 := frozen_whole hZ.out 6
  have x7 := at_whole hZ.out 7 rfl
  have k7 := frozen_whole hZ.out 7
  have x8 := at_whole hZ.out 8 rfl
  have k8 := frozen_whole hZ.out 8
  have x9 := at_whole hZ.out 9 rfl
  have k9 := frozen_whole hZ.out 9
  have x10 := at_whole hZ.out 10 rfl
  have k10 := frozen_whole hZ.out 10
  have x11 := at_whole hZ.out 11 rfl
  have k11 := frozen_whole hZ.out 11
  have x12 := at_whole hZ.out 12 rfl
  have k12 := frozen_whole hZ.out 12
  simp only [List.getElem_toArray, List.getElem_cons_zero, List.getElem_cons_succ] at x0 x1 x2 x3 x4 x5 x6 x7 x8 x9 x10 x11 x12
  go_region
  have G := ((((((((((((((Blk.start (show w2.heap[w.heap.size]? = some (.cells _ 33 (0, 0)) from hZ.out)).set 0 (.int .i64 8)).set 1 (.int .i64 sid)).set 2 (.int .i64 off)).set 3 (.string s)).set 4 (.bool true)).set 5 (.int .i64 0)).set 6 (.int .i64 0)).set 7 (.bool false)).set 8 (.int .i64 0)).set 9 (.slice none 0 0)).set 10 (.int .i64 0)).set 11 (.int .i64 0)).set 12 (.string ⟨#[]⟩))
  simp only [List.setIfInBounds_toArray, List.set_cons_zero, List.set_cons_succ] at G
  have HG := Lib.hid (And.intro G.drew.1 (below_grown HB.out G.drew.2 (Nat.le_refl _)))
  clear G
  generalize (World.drew (World.setCell _ _ _)) = W at HG ⊢
  go_wp2
  refine bodyPost_ret (results_cell_tmp2 rfl _ _ _ 33 _ (0, 0) _ rfl HG.out.1 Try.underlying33 rfl size33) rfl ⟨rfl, HG.out.2⟩
theorem Decode_any (sid off : Int) (s : ByteArray) (fin : Bool) (w : World) (hk : SfOk sid off s) :
    Calls Try.prog 12 #[.string (sfS sid off s fin), .int .i64 0] w fun e w' => e = .returned (.tuple #[.agg (strE sid off s fin), .int .i64 (sfS sid off s fin).size, .int .i64 0]) ∧ Below w.heap.size w w' := by
  cases fin
  · exact DecodeF sid off s w hk
  · exact DecodeT sid off s w hk
end Go.Proofs.Ytpfkeohaaeiaaaa.frm
/- Blocks known whole: what a store, a new block and a callee leave of them. -/
namespace Go.Proofs.Ytpfkeohaaeiaaaa
open Go.RowKit
theorem grown_refl (w : World) (r : Option Nat) : w.grownBy w r := ⟨rfl, rfl, rfl, Nat.le_refl _, fun _ _ _ => rfl⟩
theorem grown_trans {a b c : World} {r : Option Nat} (h : a.grownBy b r) (k : b.grownBy c r) : a.grownBy c r :=
  ⟨k.os.trans h.os, k.tape.trans h.tape, k.output.trans h.output, Nat.le_trans h.size k.size, fun i hi hr => (k.block i (Nat.lt_of_lt_of_le hi h.size) hr).trans (h.block i hi hr)⟩
theorem grown_set {a w : World} {b i : Nat} (h : a.grownBy w (some b)) (v : Value) : a.grownBy (w.setCell ⟨b, i, none⟩ v) (some b) :=
  ⟨h.os, h.tape, h.output, by simpa using h.size, fun k hk hr => (heap_setCell_other w _ k v (fun e => hr (by rw [e]))).trans (h.block k hk hr)⟩
theorem grown_drew {a w : World} {r : Option Nat} (h : a.grownBy w r) : a.grownBy w.drew r := ⟨h.os, h.tape, h.output, h.size, h.block⟩
theorem grown_alloc {a w : World} {r : Option Nat} (h : a.grownBy w r) (o : Obj) : a.grownBy (w.alloc o) r :=
  ⟨h.os, h.tape, h.output, by simp; exact Nat.le_succ_of_le h.size, fun k hk hr => (Below.heap_alloc w o k (Nat.lt_of_lt_of_le hk h.size)).trans (h.block k hk hr)⟩
theorem grown_below {w w' : World} {r : Option Nat} (h : Below w.heap.size w w') : w.grownBy w' r := ⟨h.os, h.tape, h.output, h.size, fun k hk _ => h.block k hk⟩
/-- a block of its own: what was below stays -/
theorem below_grown {a w w' : World} {b : Nat} (hB : Below a.heap.size a w) (h : w.grownBy w' (some b)) (hb : a.heap.size ≤ b) : Below a.heap.size a w' :=
  hB.grown h hB.size (fun k e => by cases e; exact hb)
theorem heap_grown {w w' : World} {b k : Nat} {o : Obj} (h : w.grownBy w' (some b)) (hk : w.heap[k]? = some o) (hne : k ≠ b) : w'.heap[k]? = some o :=
  (h.block k (Array.getElem?_eq_some_iff.1 hk).1 (fun e => hne (by cases e; rfl))).trans hk
theorem heap_below {w w' : World} {k : Nat} {o : Obj} (h : Below w.heap.size w w') (hk : w.heap[k]? = some o) : w'.heap[k]? = some o :=
  (h.block k (Array.getElem?_eq_some_iff.1 hk).1).trans hk
theorem cell_whole {w : World} {b : Nat} {cs : Array Value} {T : TypeId} (h : w.heap[b]? = some (.cells cs T (0, 0))) (j : Nat) : w.cell? ⟨b, j, none⟩ = cs[j]? := cell_of_row w b j cs T (0, 0) h
theorem frozen_whole {w : World} {b : Nat} {cs : Array Value} {T : TypeId} (h : w.heap[b]? = some (.cells cs T (0, 0))) (j : Nat) : w.frozen? ⟨b, j, none⟩ = false := by
  simp [World.frozen?, h]
theorem heap_lt {w : World} {b : Nat} {o : Obj} (h : w.heap[b]? = some o) : b < w.heap.size := (Array.getElem?_eq_some_iff.1 h).1
theorem heap_set {w : World} {b i : Nat} {cs : Array Value} {T : TypeId} (v : Value) (h : w.heap[b]? = some (.cells cs T (0, 0))) : (w.setCell ⟨b, i, none⟩ v).heap[b]? = some (.cells (cs.setIfInBounds i v) T (0, 0)) :=
  heap_setCell_same w b i cs T v h
/-- block b has come to hold cs; nothing else that lay in w has turned -/
def Blk (b : Nat) (cs : Array Value) (T : TypeId) (w w' : World) : Prop := w'.heap[b]? = some (.cells cs T (0, 0)) ∧ w.grownBy w' (some b)
theorem Blk.start {b : Nat} {cs : Array Value} {T : TypeId} {w : World} (h : w.heap[b]? = some (.cells cs T (0, 0))) : Blk b cs T w w := ⟨h, grown_refl _ _⟩
theorem Blk.set {b : Nat} {cs : Array Value} {T : TypeId} {w w' : World} (h : Blk b cs T w w') (i : Nat) (v : Value) : Blk b (cs.setIfInBounds i v) T w (w'.setCell ⟨b, i, none⟩ v) := ⟨heap_set v h.1, grown_set h.2 v⟩
theorem Blk.drew {b : Nat} {cs : Array Value} {T : TypeId} {w w' : World} (h : Blk b cs T w w') : Blk b cs T w w'.drew := ⟨h.1, grown_drew h.2⟩
theorem Blk.alloc {b : Nat} {cs : Array Value} {T : TypeId} {w w' : World} (h : Blk b cs T w w') (o : Obj) : Blk b cs T w (w'.alloc o) := ⟨(Below.heap_alloc w' o b (heap_lt h.1)).trans h.1, grown_alloc h.2 o⟩
theorem Blk.trans {b : Nat} {cs cs' : Array Value} {T : TypeId} {w w' w'' : World} (h : Blk b cs T w w') (k : Blk b cs' T w' w'') : Blk b cs' T w w'' := ⟨k.1, grown_trans h.2 k.2⟩
theorem Blk.below {b : Nat} {cs : Array Value} {T : TypeId} {w w' w'' : World} (h : Blk b cs T w w') (k : Below w'.heap.size w' w'') : Blk b cs T w w'' := ⟨heap_below k h.1, grown_trans h.2 (grown_below k)⟩
theorem Blk.cast {b : Nat} {cs cs' : Array Value} {T : TypeId} {w w' : World} (h : Blk b cs T w w') (e : cs = cs') : Blk b cs' T w w' := e ▸ h
theorem Blk.drewN {b : Nat} {cs : Array Value} {T : TypeId} {w w' : World} (h : Blk b cs T w w') (n : Nat) : Blk b cs T w (w'.drewN n) := ⟨h.1, ⟨h.2.os, h.2.tape, h.2.output, h.2.size, h.2.block⟩⟩
end Go.Proofs.Ytpfkeohaaeiaaaa
/- 'append(own, src...)' from whatever source: nil, empty, or a row in memory; and what such a source is. -/
namespace Go.Proofs.Ytpfkeohaaeiaaaa
open Go.RowKit Go.WideShapes Go.ChangeShapes
/-- the slice value v of n elements, size cells each, holds these cells -/
def RowAt (size : Nat) (w : World) (v : Value) (n : Nat) (cs : List Value) : Prop :=
  cs.length = n * size ∧ ((∃ a cap, v = .slice a 0 cap ∧ (a = none → cap = 0) ∧ n = 0) ∨
  (∃ b off cap, v = .slice (some ⟨b, off, none⟩) n cap ∧ 0 < n ∧ n ≤ cap ∧ cap ≤ maxLen ∧ ∀ j u, cs[j]? = some u → w.cell? ⟨b, off + j, none⟩ = some u))
theorem RowAt.of_ints {k : IntKind} {w : World} {v : Value} {zs : List Int} (h : IntsAt k w v zs) : RowAt 1 w v zs.length (zs.map (.int k)) := by
  refine ⟨by simp, ?_⟩
  rcases h with ⟨a, cap, rfl, hnil, rfl⟩ | ⟨b, off, cap, rfl, h0, hl, hc, hx⟩
  · exact .inl ⟨a, cap, rfl, hnil, rfl⟩
  · refine .inr ⟨b, off, cap, rfl, h0, hl, hc, fun j u hu => ?_⟩
    rw [List.getElem?_map, Option.map_eq_some_iff] at hu
    obtain ⟨z, hz, rfl⟩ := hu
    have hj : j < zs.length := (List.getElem?_eq_some_iff.1 hz).1
    rw [hx j hj, hz]; rfl
theorem RowAt.to_ints {k : IntKind} {w : World} {v : Value} {zs : List Int} {n : Nat} (h : RowAt 1 w v n (zs.map (.int k))) : IntsAt k w v zs := by
  obtain ⟨hl, h⟩ := h
  simp only [List.length_map, Nat.mul_one] at hl
  rcases h with ⟨a, cap, rfl, hnil, rfl⟩ | ⟨b, off, cap, rfl, h0, hn, hc, hx⟩
  · exact .inl ⟨a, cap, rfl, hnil, List.eq_nil_of_length_eq_zero hl⟩
  · subst hl
    exact .inr ⟨b, off, cap, rfl, h0, hn, hc, fun j hj => hx j _ (by simp [hj])⟩
theorem RowAt.below {size : Nat} {w w' : World} {v : Value} {n : Nat} {cs : List Value} (h : RowAt size w v n cs) (hb : Below w.heap.size w w') : RowAt size w' v n cs := by
  obtain ⟨hl, h⟩ := h
  refine ⟨hl, ?_⟩
  rcases h with h | ⟨b, off, cap, h1, h2, h3, h4, h5⟩
  · exact .inl h
  · exact .inr ⟨b, off, cap, h1, h2, h3, h4, fun j u hj => (hb.cell (p := ⟨b, off + j, none⟩) (World.block_lt_of_cell? _ _ (h5 j u hj))).trans (h5 j u hj)⟩
theorem RowAt.of_own {size base : Nat} {e : TypeId} {w : World} {v : Value} {n : Nat} {cs : List Value} (h : w.ownsRow base e size v n cs) : RowAt size w v n cs := by
  obtain ⟨hl, h⟩ := h
  refine ⟨hl, ?_⟩
  rcases h with ⟨rfl, rfl⟩ | ⟨g, cap, cur, rfl, hb, hg, hn, hc, hs, ht⟩
  · exact .inl ⟨_, _, rfl, fun _ => rfl, rfl⟩
  · rcases Nat.eq_zero_or_pos n with h0 | h0
    · subst h0; exact .inl ⟨_, _, rfl, fun h => (by cases h), rfl⟩
    · refine .inr ⟨g, 0, cap, rfl, h0, hn, hc, fun j u hu => ?_⟩
      rw [← ht, List.getElem?_take] at hu
      split at hu
      · simp only [World.cell?, hg, Nat.zero_add]
        simpa using hu
      · cases hu
theorem ints_oneCell (k : IntKind) (zs : List Int) : ∀ u ∈ zs.map (Value.int k), u.oneCell' = true := by
  intro u hu
  obtain ⟨z, _, rfl⟩ := List.mem_map.1 hu
  rfl
theorem own_base {w : World} {base : Nat} {e : TypeId} {size : Nat} {v : Value} {n : Nat} {xs : List Value} (h : w.ownsRow base e size v n xs) : ∀ k, v.ownBlock = some k → base ≤ k := by
  intro k hk
  rcases h.2 with ⟨rfl, _⟩ | ⟨g, cap, cur, rfl, hb, _⟩
  · cases hk
  · have : g = k := by simpa [Value.ownBlock] using hk
    omega
section
variable {P : Program}
theorem run_append_row (w : World) (base : Nat) (t ty e : TypeId) (i : TypeInfo) (z : Value) (size bytes : Nat) (ht : P.underlying t = some (.slice e)) (hi : P.info? e = some i) (hz : i.zero = some z)
    (hsize : i.size = size) (hby : i.bytes = bytes) (hzs : z.cells.size = size) (hsz : 0 < size)
    (v : Value) (n : Nat) (xs : List Value) (hown : w.ownsRow base e size v n xs) (sv : Value) (m : Nat) (news : List Value) (hsrc : RowAt size w sv m news) (h1 : ∀ u ∈ news, u.oneCell' = true)
    (h63 : n + m ≤ maxLen) (hbytes : (n + m) * bytes ≤ 140737488355328) (hbase : base ≤ w.heap.size) :
    ∃ v' w', (Builtin.append_ #[t, t] ty #[v, sv]).run P w = .ok v' w' ∧ w'.ownsRow base e size v' (n + m) (xs ++ news) ∧ w.grownBy w' v.ownBlock := by
  obtain ⟨hl, hs⟩ := hsrc
  rcases hs with ⟨a, cap, rfl, hnil, rfl⟩ | ⟨b, off, cap, rfl, h0, hn, hc, hx⟩
  · obtain rfl : news = [] := List.eq_nil_of_length_eq_zero (by simpa using hl)
    cases a with
    | none =>
      obtain rfl := hnil rfl
      exact ⟨v, w, run_append_owned_none w base t ty e i size ht hi v n xs hown, by simpa using hown, ⟨rfl, rfl, rfl, Nat.le_refl _, fun _ _ _ => rfl⟩⟩
    | some a =>
      obtain ⟨v', w', hr, h2, h3, _⟩ := run_append_own (P := P) w base t ty e i z size bytes ht hi hz hsize hby hzs hsz v n xs hown a 0 cap [] (by simp) (by simp) (by simp) h63 hbytes hbase
      exact ⟨v', w', hr, h2, h3⟩
  · obtain ⟨v', w', hr, h2, h3, _⟩ := run_append_own (P := P) w base t ty e i z size bytes ht hi hz hsize hby hzs hsz v n xs hown ⟨b, off, none⟩ m cap news hl (fun j u hu => by rw [add_plain]; exact hx j u hu) h1 h63 hbytes hbase
    exact ⟨v', w', hr, h2, h3⟩
theorem wp_append_row {o : Oper} {a : Act} {w : World} {K : Act → World → Prop} {Q : Exit → Act → World → Prop} (s x : Operand) (t : TypeId)
    (ho : o.op = .call { callee := .builtin .append, args := #[s, x], argTypes := #[t, t] })
    (base : Nat) (e : TypeId) (i : TypeInfo) (z : Value) (size bytes : Nat) (ht : P.underlying t = some (.slice e)) (hi : P.info? e = some i) (hz : i.zero = some z)
    (hsize : i.size = size) (hby : i.bytes = bytes) (hzs : z.cells.size = size) (hsz : 0 < size)
    (v : Value) (n : Nat) (xs : List Value) (hs : a.eval s = v) (hown : w.ownsRow base e size v n xs)
    (sv : Value) (m : Nat) (news : List Value) (hx : a.eval x = sv) (hsrc : RowAt size w sv m news) (h1 : ∀ u ∈ news, u.oneCell' = true)
    (h63 : n + m ≤ maxLen) (hbytes : (n + m) * bytes ≤ 140737488355328) (hbase : base ≤ w.heap.size)
    (h : ∀ v' w', w'.ownsRow base e size v' (n + m) (xs ++ news) → w.grownBy w' v.ownBlock → K (a.put o.dst v') w') : o.wp P a w K Q := by
  obtain ⟨v', w', hr, h2, h3⟩ := run_append_row (P := P) w base t o.type e i z size bytes ht hi hz hsize hby hzs hsz v n xs hown sv m news hsrc h1 h63 hbytes hbase
  unfold Oper.wp execOp
  simp only [ho, resolve, invoke, builtin, Sem.run_bind, Sem.run_pure, Result.andThen_ok, List.map_toArray, List.map_cons, List.map_nil, hs, hx, hr]
  exact h v' w' h2 h3
theorem step_append_row {ops : Array Oper} {o : Oper} {a : Act} {w : World} {K : Act → World → Prop} {Q : Exit → Act → World → Prop} {E : Prop} (hgd : o.guard = none) (s x : Operand) (t : TypeId)
    (ho : o.op = .call { callee := .builtin .append, args := #[s, x], argTypes := #[t, t] })
    (base : Nat) (e : TypeId) (i : TypeInfo) (z : Value) (size bytes : Nat) (ht : P.underlying t = some (.slice e)) (hi : P.info? e = some i) (hz : i.zero = some z)
    (hsize : i.size = size) (hby : i.bytes = bytes) (hzs : z.cells.size = size) (hsz : 0 < size)
    (v : Value) (n : Nat) (xs : List Value) (hs : a.eval s = v) (hown : w.ownsRow base e size v n xs)
    (sv : Value) (m : Nat) (news : List Value) (hx : a.eval x = sv) (hsrc : RowAt size w sv m news) (h1 : ∀ u ∈ news, u.oneCell' = true)
    (h63 : n + m ≤ maxLen) (hbytes : (n + m) * bytes ≤ 140737488355328) (hbase : base ≤ w.heap.size)
    (h : ∀ v' w', w'.ownsRow base e size v' (n + m) (xs ++ news) → w.grownBy w' v.ownBlock → K (a.put o.dst v') w') :
    if Region.wanted o (yielded ops a.tmps) = true then Oper.wp P o a w K Q else E := by
  have hw : Region.wanted o (yielded ops a.tmps) = true := by simp [Region.wanted, hgd]
  rw [if_pos hw]
  exact wp_append_row s x t ho base e i z size bytes ht hi hz hsize hby hzs hsz v n xs hs hown sv m news hx hsrc h1 h63 hbytes hbase h
theorem wpList_append_row {ops : Array Oper} {rest : List Oper} {o : Oper} {a : Act} {w : World} {Q : Exit → Act → World → Prop} (hgd : o.guard = none) (s x : Operand) (t : TypeId)
    (ho : o.op = .call { callee := .builtin .append, args := #[s, x], argTypes := #[t, t] })
    (base : Nat) (e : TypeId) (i : TypeInfo) (z : Value) (size bytes : Nat) (ht : P.underlying t = some (.slice e)) (hi : P.info? e = some i) (hz : i.zero = some z)
    (hsize : i.size = size) (hby : i.bytes = bytes) (hzs : z.cells.size = size) (hsz : 0 < size)
    (v : Value) (n : Nat) (xs : List Value) (hs : a.eval s = v) (hown : w.ownsRow base e size v n xs)
    (sv : Value) (m : Nat) (news : List Value) (hx : a.eval x = sv) (hsrc : RowAt size w sv m news) (h1 : ∀ u ∈ news, u.oneCell' = true)
    (h63 : n + m ≤ maxLen) (hbytes : (n + m) * bytes ≤ 140737488355328) (hbase : base ≤ w.heap.size)
    (h : ∀ v' w', w'.ownsRow base e size v' (n + m) (xs ++ news) → w.grownBy w' v.ownBlock → wpList P ops Q rest (a.put o.dst v') w') : wpList P ops Q (o :: rest) a w :=
  wpList_plain hgd fun _ hK => wp_append_row s x t ho base e i z size bytes ht hi hz hsize hby hzs hsz v n xs hs hown sv m news hx hsrc h1 h63 hbytes hbase fun v' w' h2 h3 => hK _ _ (h v' w' h2 h3)
end
end Go.Proofs.Ytpfkeohaaeiaaaa
/- 'append(own, s...)' of a string, and 'append(own, make([]T, n)...)', where own is nil or a row of the call's own. -/
namespace Go.Proofs.Ytpfkeohaaeiaaaa
open Go.RowKit
section
variable {P : Program}
/-- what an append leaves of an own row, the two arms once for whatever is appended -/
theorem own_after (w : World) (base : Nat) (e : TypeId) (size : Nat) (n m : Nat) (xs news : List Value) (g cap : Nat) (cur : Array Value) (hbg : base ≤ g) (hg : w.heap[g]? = some (.cells cur e (0, 0))) (hcm : cap ≤ maxLen) (hcs : cur.size = cap * size)
    (htake : cur.toList.take (n * size) = xs) (hxl : xs.length = n * size) (hl : news.length = m * size) (hroom : n + m ≤ cap) :
    (w.setRow g (cur.toList.take (n * size) ++ news ++ cur.toList.drop (n * size + news.length)).toArray).ownsRow base e size (.slice (some ⟨g, 0, none⟩) (n + m) cap) (n + m) (xs ++ news) ∧
    w.grownBy (w.setRow g (cur.toList.take (n * size) ++ news ++ cur.toList.drop (n * size + news.length)).toArray) (some g) := by
  have hlen : (xs ++ news).length = (n + m) * size := by rw [List.length_append, hxl, hl, Nat.add_mul]
  refine ⟨⟨hlen, .inr ⟨g, cap, _, rfl, hbg, setRow_heap w g cur _ e _ hg, hroom, hcm, ?_, ?_⟩⟩, ⟨rfl, rfl, rfl, by simp, fun k _ hk => setRow_other w g k _ (fun e => hk (by simp [e]))⟩⟩
  · have hle : n * size + news.length ≤ cap * size := by rw [hl, ← Nat.add_mul]; exact Nat.mul_le_mul_right _ hroom
    simp only [List.size_toArray, List.length_append, List.length_take, List.length_drop, Array.length_toList]
    omega
  · rw [htake, ← hlen]
    exact List.take_left
theorem new_after (w : World) (base : Nat) (e : TypeId) (z : Value) (size : Nat) (n m : Nat) (xs news : List Value) (old : Nat) (row : Option Nat) (hzs : z.cells.size = size) (hxl : xs.length = n * size) (hl : news.length = m * size) (h63 : n + m ≤ maxLen) (hbase : base ≤ w.heap.size) :
    (w.drew.alloc (.cells ((xs ++ news).toArray ++ Builtin.zeroCells z.cells (grownCap w (n + m) old e - (n + m))) e)).ownsRow base e size (.slice (some ⟨w.heap.size, 0, none⟩) (n + m) (grownCap w (n + m) old e)) (n + m) (xs ++ news) ∧
    w.grownBy (w.drew.alloc (.cells ((xs ++ news).toArray ++ Builtin.zeroCells z.cells (grownCap w (n + m) old e - (n + m))) e)) row := by
  have hlen : (xs ++ news).length = (n + m) * size := by rw [List.length_append, hxl, hl, Nat.add_mul]
  have hge := grownCap_ge w (n + m) old e
  have hcm : grownCap w (n + m) old e ≤ maxLen := grownCap_le_maxLen w (n + m) old e h63
  refine ⟨⟨hlen, .inr ⟨w.heap.size, _, _, rfl, hbase, heap_alloc_new w.drew _, hge, hcm, ?_, ?_⟩⟩, ⟨rfl, rfl, rfl, by simp, fun k hk _ => Below.heap_alloc w.drew _ k hk⟩⟩
  · simp only [Array.size_append, List.size_toArray, size_zeroCells, hzs, hlen, ← Nat.add_mul]
    congr 1
    omega
  · simp only [Array.toList_append]
    rw [← hlen]
    exact List.take_left
theorem run_append_src (w : World) (base : Nat) (t tx ty e : TypeId) (i : TypeInfo) (z : Value) (size bytes : Nat) (ht : P.underlying t = some (.slice e)) (hi : P.info? e = some i) (hz : i.zero = some z)
    (hsize : i.size = size) (hby : i.bytes = bytes) (hzs : z.cells.size = size) (hsz : 0 < size)
    (v : Value) (n : Nat) (xs : List Value) (hown : w.ownsRow base e size v n xs) (x : Value) (m : Nat) (news : List Value) (hs : Src P size tx x m news w)
    (h63 : n + m ≤ maxLen) (hbytes : (n + m) * bytes ≤ 140737488355328) (hbase : base ≤ w.heap.size) :
    ∃ v' w', (Builtin.append_ #[t, tx] ty #[v, x]).run P w = .ok v' w' ∧ w'.ownsRow base e size v' (n + m) (xs ++ news) ∧ w.grownBy w' v.ownBlock ∧ ∀ k, v'.ownBlock = some k → v.ownBlock = some k ∨ w.heap.size ≤ k := by
  subst hsize
  subst hby
  have hsmall : n + m ≤ 9223372036854775807 := by simp only [maxLen] at h63; omega
  rcases hown.2 with ⟨rfl, rfl⟩ | ⟨g, cap, cur, rfl, hbg, hg, hnc, hcm, hcs, htake⟩
  · have hx : xs = [] := List.eq_nil_of_length_eq_zero (by simpa using hown.1)
    subst hx
    by_cases hm : m = 0
    · subst hm
      have hn : news = [] := List.eq_nil_of_length_eq_zero (by simpa using hs.newsLen)
      subst hn
      refine ⟨.slice none 0 0, w, ?_, World.ownsRow_nil w base e i.size, ⟨rfl, rfl, rfl, Nat.le_refl _, fun _ _ _ => rfl⟩, fun k hk => .inl hk⟩
      rcases hs.kind with ⟨e', hk⟩ | hk <;> simp [Builtin.append_, run_underlying ht, run_underlying hk, sizeOf, typeInfo, hi, hs.len, hs.cells]
    · have hr := run_append_grow_src (P := P) w t tx ty e i z ht hi hz none 0 0 [] (run_firstCells_none w.drew i.size 0 0 0) x m news hs (by omega) (by omega) (growslice_fits (by omega) hbytes)
      have ha := new_after w base e z i.size 0 m [] news 0 (Value.ownBlock (.slice none 0 0)) hzs (by simp) hs.newsLen h63 hbase
      exact ⟨_, _, hr, ha.1, ha.2, fun k hk => .inr (by cases hk; exact Nat.le_refl _)⟩
  · by_cases hroom : n + m ≤ cap
    · have hfit : n * i.size + news.length ≤ cur.size := by rw [hs.newsLen, hcs, ← Nat.add_mul]; exact Nat.mul_le_mul_right _ hroom
      have hst := run_storeCells_at (P := P) g (n * i.size) e news 0 cur w hg (by simpa using hfit) hs.one
      simp only [Nat.add_zero] at hst
      have ha := own_after w base e i.size n m xs news g cap cur hbg hg hcm hcs htake hown.1 hs.newsLen hroom
      refine ⟨_, _, ?_, ha.1, ha.2, fun k hk => .inl hk⟩
      have hadd : (⟨g, 0, none⟩ : Addr).add (n * i.size) = ⟨g, n * i.size, none⟩ := by rw [add_plain, Nat.zero_add]
      rcases hs.kind with ⟨e', hk⟩ | hk <;> simp [Builtin.append_, run_underlying ht, run_underlying hk, sizeOf, typeInfo, hi, hs.len, hroom, hs.cells, hadd, hst]
    · have holds : ∀ j u, xs[j]? = some u → w.cell? ((⟨g, 0, none⟩ : Addr).add j) = some u := hown.cells (g := g) rfl
      have hold := run_firstCells_some (P := P) w.drew i.size n ⟨g, 0, none⟩ n cap xs hown.1 (by simpa using holds)
      have hr := run_append_grow_src (P := P) w t tx ty e i z ht hi hz (some ⟨g, 0, none⟩) n cap xs hold x m news hs (by omega) (by omega) (growslice_fits (by omega) hbytes)
      have ha := new_after w base e z i.size n m xs news cap (some g) hzs hown.1 hs.newsLen h63 hbase
      exact ⟨_, _, hr, ha.1, ha.2, fun k hk => .inr (by cases hk; exact Nat.le_refl _)⟩
end
end Go.Proofs.Ytpfkeohaaeiaaaa
namespace Go.Proofs.Ytpfkeohaaeiaaaa
open Go.RowKit
set_option maxRecDepth 100000
/-- only the blocks of F may have turned; new ones may have come -/
structure Chg (F : Nat → Prop) (w w' : World) : Prop where
  os : w'.os = w.os
  tape : w'.tape = w.tape
  output : w'.output = w.output
  size : w.heap.size ≤ w'.heap.size
  block : ∀ k, k < w.heap.size → ¬ F k → w'.heap[k]? = w.heap[k]?
def Ext (F : Nat → Prop) (w w' : World) (k : Nat) : Prop := F k ∨ (w.heap.size ≤ k ∧ k < w'.heap.size)
theorem Chg.refl (F : Nat → Prop) (w : World) : Chg F w w := ⟨rfl, rfl, rfl, Nat.le_refl _, fun _ _ _ => rfl⟩
theorem Chg.trans {F : Nat → Prop} {a b c : World} (h : Chg F a b) (k : Chg (Ext F a b) b c) : Chg F a c :=
  ⟨k.os.trans h.os, k.tape.trans h.tape, k.output.trans h.output, Nat.le_trans h.size k.size, fun i hi hf => (k.block i (Nat.lt_of_lt_of_le hi h.size) (fun e => e.elim hf (fun e => Nat.not_le.2 hi e.1))).trans (h.block i hi hf)⟩
theorem Chg.trans1 {F : Nat → Prop} {a b c : World} (h : Chg F a b) (k : Chg F b c) : Chg F a c :=
  ⟨k.os.trans h.os, k.tape.trans h.tape, k.output.trans h.output, Nat.le_trans h.size k.size, fun i hi hf => (k.block i (Nat.lt_of_lt_of_le hi h.size) hf).trans (h.block i hi hf)⟩
theorem Chg.mono {F G : Nat → Prop} {a b : World} (h : Chg F a b) (hs : ∀ k, F k → G k) : Chg G a b := ⟨h.os, h.tape, h.output, h.size, fun k hk hg => h.block k hk (fun e => hg (hs k e))⟩
theorem Chg.grown {w w' : World} {b : Nat} {F : Nat → Prop} (h : w.grownBy w' (some b)) (hF : F b) : Chg F w w' := ⟨h.os, h.tape, h.output, h.size, fun k hk hn => h.block k hk (fun e => hn (by cases e; exact hF))⟩
theorem Chg.grownO {w w' : World} {r : Option Nat} {F : Nat → Prop} (h : w.grownBy w' r) (hF : ∀ k, r = some k → F k) : Chg F w w' := ⟨h.os, h.tape, h.output, h.size, fun k hk hn => h.block k hk (fun e => hn (hF k e.symm))⟩
theorem Chg.drew {F : Nat → Prop} {a b : World} (h : Chg F a b) : Chg F a b.drew := ⟨h.os, h.tape, h.output, h.size, h.block⟩
theorem Chg.below {F : Nat → Prop} {a b : World} (h : Below a.heap.size a b) : Chg F a b := ⟨h.os, h.tape, h.output, h.size, fun k hk _ => h.block k hk⟩
theorem Chg.toBelow {F : Nat → Prop} {W a b : World} (hB : Below W.heap.size W a) (h : Chg F a b) (hF : ∀ k, F k → W.heap.size ≤ k) : Below W.heap.size W b :=
  ⟨h.os.trans hB.os, h.tape.trans hB.tape, h.output.trans hB.output, Nat.le_trans hB.size h.size, fun k hk => (h.block k (Nat.lt_of_lt_of_le hk hB.size) (fun e => Nat.not_le.2 hk (hF k e))).trans (hB.block k hk)⟩
theorem Chg.heap {F : Nat → Prop} {a b : World} (h : Chg F a b) {k : Nat} {o : Obj} (hk : a.heap[k]? = some o) (hn : ¬ F k) : b.heap[k]? = some o := (h.block k (heap_lt hk) hn).trans hk
/-- a row of the call's own is there again where its block has stayed -/
theorem own_same {w w' : World} {base : Nat} {e : TypeId} {size : Nat} {v : Value} {n : Nat} {xs : List Value} (h : w.ownsRow base e size v n xs) (hs : ∀ k, v.ownBlock = some k → w'.heap[k]? = w.heap[k]?) : w'.ownsRow base e size v n xs := by
  obtain ⟨hl, h⟩ := h
  refine ⟨hl, ?_⟩
  rcases h with h | ⟨g, cap, cur, rfl, h2, h3, h4⟩
  · exact .inl h
  · exact .inr ⟨g, cap, cur, rfl, h2, (hs g rfl).trans h3, h4⟩
theorem own_lt {w : World} {base : Nat} {e : TypeId} {size : Nat} {v : Value} {n : Nat} {xs : List Value} (h : w.ownsRow base e size v n xs) : ∀ k, v.ownBlock = some k → k < w.heap.size := by
  intro k hk
  rcases h.2 with ⟨rfl, _⟩ | ⟨g, cap, cur, rfl, hb, hg, _⟩
  · cases hk
  · have : g = k := by simpa [Value.ownBlock] using hk
    subst this; exact heap_lt hg
structure Bf where
  lim : Int
  base : Int
  data : List Int
  st : List Int
  sent : Int
  fin : Bool
  ed : Int
def Bf.cells (B : Bf) (vd vs : Value) : Array Value := #[.int .i64 B.lim, .int .i64 B.base, vd, vs, .int .i64 B.sent, .bool B.fin, .int .u8 B.ed]
structure Rep (w : World) (b : Nat) (F : Nat → Prop) (B : Bf) (vd vs : Value) : Prop where
  obj : w.heap[b]? = some (.cells (B.cells vd vs) 47 (0, 0))
  rd : w.ownsRow 0 5 1 vd B.data.length (B.data.map (.int .u8))
  rs : w.ownsRow 0 45 1 vs B.st.length (B.st.map (.int .u8))
  fb : F b
  fd : ∀ k, vd.ownBlock = some k → F k ∧ k ≠ b
  fs : ∀ k, vs.ownBlock = some k → F k ∧ k ≠ b ∧ vd.ownBlock ≠ some k
structure Facts (w : World) (b : Nat) (B : Bf) (vd vs : Value) : Prop where
  c0 : w.cell? ⟨b, 0, none⟩ = some (.int .i64 B.lim)
  c1 : w.cell? ⟨b, 1, none⟩ = some (.int .i64 B.base)
  c2 : w.cell? ⟨b, 2, none⟩ = some vd
  c3 : w.cell? ⟨b, 3, none⟩ = some vs
  c4 : w.cell? ⟨b, 4, none⟩ = some (.int .i64 B.sent)
  c5 : w.cell? ⟨b, 5, none⟩ = some (.bool B.fin)
  c6 : w.cell? ⟨b, 6, none⟩ = some (.int .u8 B.ed)
  fr : ∀ j, w.frozen? ⟨b, j, none⟩ = false
theorem Rep.facts {w : World} {b : Nat} {F : Nat → Prop} {B : Bf} {vd vs : Value} (h : Rep w b F B vd vs) : Facts w b B vd vs :=
  ⟨cell_whole h.obj 0, cell_whole h.obj 1, cell_whole h.obj 2, cell_whole h.obj 3, cell_whole h.obj 4, cell_whole h.obj 5, cell_whole h.obj 6, frozen_whole h.obj⟩
theorem own_form {w : World} {base : Nat} {e : TypeId} {size : Nat} {v : Value} {n : Nat} {xs : List Value} (h : w.ownsRow base e size v n xs) : ∃ a cap, v = .slice a n cap ∧ n ≤ cap := by
  rcases h.2 with ⟨rfl, rfl⟩ | ⟨g, cap, cur, rfl, hb, hg, hn, _⟩
  · exact ⟨none, 0, rfl, Nat.le_refl _⟩
  · exact ⟨_, cap, rfl, hn⟩
/-- the whole thing lies elsewhere: it stays -/
theorem Rep.stay {w w' : World} {b : Nat} {F : Nat → Prop} {B : Bf} {vd vs : Value} (h : Rep w b F B vd vs) (hs : ∀ k, F k → k < w.heap.size → w'.heap[k]? = w.heap[k]?) : Rep w' b F B vd vs :=
  ⟨(hs b h.fb (heap_lt h.obj)).trans h.obj, own_same h.rd (fun k hk => hs k (h.fd k hk).1 (own_lt h.rd k hk)), own_same h.rs (fun k hk => hs k (h.fs k hk).1 (own_lt h.rs k hk)), h.fb, h.fd, h.fs⟩
theorem Rep.below {w w' : World} {b : Nat} {F : Nat → Prop} {B : Bf} {vd vs : Value} (h : Rep w b F B vd vs) (hb : Below w.heap.size w w') : Rep w' b F B vd vs := h.stay (fun k _ hk => hb.block k hk)
theorem Rep.chg {w w' : World} {b : Nat} {F G : Nat → Prop} {B : Bf} {vd vs : Value} (h : Rep w b F B vd vs) (hc : Chg G w w') (hd : ∀ k, F k → ¬ G k) : Rep w' b F B vd vs := h.stay (fun k hf hk => hc.block k hk (hd k hf))
theorem Rep.drew {w : World} {b : Nat} {F : Nat → Prop} {B : Bf} {vd vs : Value} (h : Rep w b F B vd vs) : Rep w.drew b F B vd vs := h.stay (fun _ _ _ => rfl)
theorem Rep.drewN {w : World} {b : Nat} {F : Nat → Prop} {B : Bf} {vd vs : Value} (h : Rep w b F B vd vs) (n : Nat) : Rep (w.drewN n) b F B vd vs := h.stay (fun _ _ _ => rfl)
theorem Rep.ext {w : World} {b : Nat} {F G : Nat → Prop} {B : Bf} {vd vs : Value} (h : Rep w b F B vd vs) (hs : ∀ k, F k → G k) : Rep w b G B vd vs :=
  ⟨h.obj, h.rd, h.rs, hs _ h.fb, fun k hk => ⟨hs _ (h.fd k hk).1, (h.fd k hk).2⟩, fun k hk => ⟨hs _ (h.fs k hk).1, (h.fs k hk).2⟩⟩
/-- a field of the block itself (no row) is set -/
theorem Rep.set {w : World} {b : Nat} {F : Nat → Prop} {B B' : Bf} {vd vs : Value} (h : Rep w b F B vd vs) (i : Nat) (v : Value) (e : (B.cells vd vs).setIfInBounds i v = B'.cells vd vs) (hd : B'.data = B.data) (hs : B'.st = B.st) : Rep (w.setCell ⟨b, i, none⟩ v) b F B' vd vs :=
  ⟨by rw [heap_set v h.obj, e], by rw [hd]; exact own_same h.rd (fun k hk => heap_setCell_other w _ k v (h.fd k hk).2), by rw [hs]; exact own_same h.rs (fun k hk => heap_setCell_other w _ k v (h.fs k hk).2.1), h.fb, h.fd, h.fs⟩
theorem Chg.set {w w' : World} {F : Nat → Prop} (h : Chg F w w') (b i : Nat) (v : Value) (hF : F b) : Chg F w (w'.setCell ⟨b, i, none⟩ v) := h.trans1 (Chg.grown (grown_set (grown_refl _ _) v) hF)
/-- a byte of the states is set -/
def Move (b : Nat) (F : Nat → Prop) (B : Bf) (w w' : World) : Prop := Chg F w w' ∧ ∃ vd vs, Rep w' b (Ext F w w') B vd vs
def Inv (w : World) (b : Nat) (F : Nat → Prop) (B : Bf) : Prop := ∃ vd vs, Rep w b F B vd vs
theorem Inv.below {w w' : World} {b : Nat} {F : Nat → Prop} {B : Bf} (h : Inv w b F B) (hb : Below w.heap.size w w') : Inv w' b F B := by obtain ⟨vd, vs, h⟩ := h; exact ⟨vd, vs, h.below hb⟩
theorem Inv.chg {w w' : World} {b : Nat} {F G : Nat → Prop} {B : Bf} (h : Inv w b F B) (hc : Chg G w w') (hd : ∀ k, F k → ¬ G k) : Inv w' b F B := by obtain ⟨vd, vs, h⟩ := h; exact ⟨vd, vs, h.chg hc hd⟩
theorem Inv.drewN {w : World} {b : Nat} {F : Nat → Prop} {B : Bf} (h : Inv w b F B) (n : Nat) : Inv (w.drewN n) b F B := by obtain ⟨vd, vs, h⟩ := h; exact ⟨vd, vs, h.drewN n⟩
/-- what always holds of a buffer -/
structure Good (B : Bf) : Prop where
  l1 : 1 ≤ B.lim
  l2 : B.lim ≤ 8192
  b0 : 0 ≤ B.base
  b1 : B.base ≤ 1125899906842624
  len : B.st.length = B.data.length
  cap : (B.data.length : Int) ≤ B.lim
  s0 : B.base ≤ B.sent
  s1 : B.sent ≤ B.base + B.data.length
def newB (n : Int) : Bf := ⟨n, 0, [], [], 0, false, 0⟩
def goodLim (n : Int) : Bool := decide (1 ≤ n) && decide (n ≤ 8192)
theorem new_ok (n : Int) (w : World) (h1 : 1 ≤ n) (h2 : n ≤ 8192) :
    Calls Try.prog 6 #[.int .i64 n] w fun e w' => e = .returned (.tuple #[.pointer (some ⟨w.heap.size, 0, none⟩), .int .i64 0]) ∧ w' = w.alloc (.cells ((newB n).cells (.slice none 0 0) (.slice none 0 0)) 47) := by
  go_enter Try.func6, Try.ntmps6
  go_wp2
  go_returns
  exact ⟨rfl, rfl⟩
theorem new_no (n : Int) (w : World) (h : ¬ (1 ≤ n ∧ n ≤ 8192)) :
    Calls Try.prog 6 #[.int .i64 n] w fun e w' => e = .returned (.tuple #[.pointer none, .int .i64 2]) ∧ w' = w := by
  by_cases h1 : 1 ≤ n
  all_goals
    have h2 : n < 1 ∨ 8192 < n := by omega
    first | have h2 : n < 1 := by omega | have h2 : 8192 < n := by omega
    go_enter Try.func6, Try.ntmps6
    go_wp2
    go_returns
    exact ⟨rfl, rfl⟩
theorem new_rep (n : Int) (w : World) : Rep (w.alloc (.cells ((newB n).cells (.slice none 0 0) (.slice none 0 0)) 47)) w.heap.size (fun k => k = w.heap.size) (newB n) (.slice none 0 0) (.slice none 0 0) :=
  ⟨heap_alloc_new w _, World.ownsRow_nil _ _ _ _, World.ownsRow_nil _ _ _ _, rfl, (fun k hk => by cases hk), (fun k hk => by cases hk)⟩
def spaceF (B : Bf) : Int := if B.fin then 0 else B.lim - B.data.length
theorem space_any (b : Nat) (F : Nat → Prop) (B : Bf) (w : World) (h : Inv w b F B) (hg : Good B) :
    Calls Try.prog 17 #[.pointer (some ⟨b, 0, none⟩)] w fun e w' => e = .returned (.int .i64 (spaceF B)) ∧ ∃ m, w' = w.drewN m := by
  obtain ⟨vd, vs, h⟩ := h
  obtain ⟨a, cap, rfl, hn⟩ := own_form h.rd
  obtain ⟨c0, c1, c2, c3, c4, c5, c6, fr⟩ := h.facts
  obtain ⟨l1, l2, b0, b1, len, cp, s0, s1⟩ := hg
  have hw : IntKind.i64.wrap (B.lim - (B.data.length : Int)) = B.lim - (B.data.length : Int) := IntWalk.i64_in _ (by omega)
  cases hf : B.fin
  · have E := Lib.hid (show spaceF B = B.lim - B.data.length from by unfold spaceF; rw [hf]; rfl)
    rw [hf] at c5
    clear hf
    go_enter Try.func17, Try.ntmps17
    go_wp2
    go_quiet (fail)
    go_wp2
    go_ret
    exact ⟨by rw [E.out]; try rfl, _, rfl⟩
  · have E := Lib.hid (show spaceF B = 0 from by unfold spaceF; rw [hf]; rfl)
    rw [hf] at c5
    clear hf
    go_enter Try.func17, Try.ntmps17
    go_wp2
    go_ret
    exact ⟨by rw [E.out]; try rfl, 0, rfl⟩
theorem space_nil (w : World) : Calls Try.prog 17 #[.pointer none] w fun e w' => e = .returned (.int .i64 0) ∧ ∃ m, w' = w.drewN m := by
  go_enter Try.func17, Try.ntmps17
  go_wp2
  go_ret
  exact ⟨rfl, 0, rfl⟩
def writtenF (B : Bf) : Int := B.base + B.data.length
theorem written_any (b : Nat) (F : Nat → Prop) (B : Bf) (w : World) (h : Inv w b F B) (hg : Good B) :
    Calls Try.prog 15 #[.pointer (some ⟨b, 0, none⟩)] w fun e w' => e = .returned (.int .i64 (writtenF B)) ∧ ∃ m, w' = w.drewN m := by
  obtain ⟨vd, vs, h⟩ := h
  obtain ⟨a, cap, rfl, hn⟩ := own_form h.rd
  obtain ⟨c0, c1, c2, c3, c4, c5, c6, fr⟩ := h.facts
  obtain ⟨l1, l2, b0, b1, len, cp, s0, s1⟩ := hg
  have hw : IntKind.i64.wrap (B.base + (B.data.length : Int)) = B.base + (B.data.length : Int) := IntWalk.i64_in _ (by omega)
  go_enter Try.func15, Try.ntmps15
  go_wp2
  go_quiet (fail)
  go_wp2
  go_ret
  exact ⟨rfl, _, rfl⟩
theorem finish_any (b : Nat) (F : Nat → Prop) (B : Bf) (w : World) (h : Inv w b F B) :
    Calls Try.prog 9 #[.pointer (some ⟨b, 0, none⟩)] w fun e w' => e = .returned (.tuple #[]) ∧ Chg F w w' ∧ Inv w' b F { B with fin := true } ∧ w'.heap.size = w.heap.size := by
  obtain ⟨vd, vs, h⟩ := h
  obtain ⟨c0, c1, c2, c3, c4, c5, c6, fr⟩ := h.facts
  have R := Lib.hid h
  go_enter Try.func9, Try.ntmps9
  go_wp2
  go_returns
  exact ⟨rfl, (Chg.refl F w).set b 5 _ R.out.fb, ⟨vd, vs, R.out.set 5 _ rfl rfl rfl⟩, by simp⟩
def openF (B : Bf) : Bool := B.fin && (decide (B.ed = 0) || decide (B.ed = 2))
theorem open_any (b : Nat) (F : Nat → Prop) (B : Bf) (w : World) (h : Inv w b F B) :
    Calls Try.prog 20 #[.pointer (some ⟨b, 0, none⟩)] w fun e w' => e = .returned (.bool (openF B)) ∧ w' = w := by
  obtain ⟨vd, vs, h⟩ := h
  obtain ⟨c0, c1, c2, c3, c4, c5, c6, fr⟩ := h.facts
  cases hf : B.fin
  · have E := Lib.hid (show openF B = false from by unfold openF; rw [hf]; rfl)
    rw [hf] at c5
    clear hf
    go_enter Try.func20, Try.ntmps20
    go_wp2
    go_ret
    exact ⟨by rw [E.out]; try rfl, rfl⟩
  · rw [hf] at c5
    by_cases h1 : B.ed = 0
    · have E := Lib.hid (show openF B = true from by unfold openF; rw [hf, h1]; rfl)
      rw [h1] at c6
      clear hf
      go_enter Try.func20, Try.ntmps20
      go_wp2
      go_ret
      exact ⟨by rw [E.out]; try rfl, rfl⟩
    · have E := Lib.hid (show openF B = decide (B.ed = 2) from by unfold openF; rw [hf]; simp [h1])
      clear hf
      go_enter Try.func20, Try.ntmps20
      go_wp2
      go_ret
      exact ⟨by rw [E.out]; try rfl, rfl⟩
def doneF (B : Bf) : Bool := B.fin && decide (B.data.length = 0) && decide (B.ed = 3)
theorem done_any (b : Nat) (F : Nat → Prop) (B : Bf) (w : World) (h : Inv w b F B) :
    Calls Try.prog 14 #[.pointer (some ⟨b, 0, none⟩)] w fun e w' => e = .returned (.bool (doneF B)) ∧ w' = w := by
  obtain ⟨vd, vs, h⟩ := h
  obtain ⟨a, cap, rfl, hn⟩ := own_form h.rd
  obtain ⟨c0, c1, c2, c3, c4, c5, c6, fr⟩ := h.facts
  cases hf : B.fin
  · have E := Lib.hid (show doneF B = false from by unfold doneF; rw [hf]; rfl)
    rw [hf] at c5
    clear hf
    go_enter Try.func14, Try.ntmps14
    go_wp2
    go_ret
    exact ⟨by rw [E.out]; try rfl, rfl⟩
  · rw [hf] at c5
    by_cases h1 : B.data.length = 0
    · have E := Lib.hid (show doneF B = decide (B.ed = 3) from by unfold doneF; rw [hf, h1]; simp)
      rw [h1] at c2
      clear hf
      go_enter Try.func14, Try.ntmps14
      go_wp2
      go_ret
      exact ⟨by rw [E.out]; try rfl, rfl⟩
    · have E := Lib.hid (show doneF B = false from by unfold doneF; rw [hf]; simp [h1])
      have h2 : ¬ ((B.data.length : Int) = 0) := by omega
      clear hf
      go_enter Try.func14, Try.ntmps14
      go_wp2
      go_ret
      exact ⟨by rw [E.out]; try rfl, rfl⟩
end Go.Proofs.Ytpfkeohaaeiaaaa
