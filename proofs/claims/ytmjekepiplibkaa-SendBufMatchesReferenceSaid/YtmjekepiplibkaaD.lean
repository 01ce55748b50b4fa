import Derived.Test.YtmjekepiplibkaaC
import Derived.Laws.BytesArg
namespace Go.Proofs.Ytmjekepiplibkaa
open Go.RowKit
structure Fr where
  ty : Int
  str : Int
  off : Int
  s : ByteArray
  fin : Bool
  max : Int
  code : Int
  uni : Bool
  delay : Int
  ranges : Value
  seq : Int
  retire : Int
  cid : ByteArray
def Fr.cells (f : Fr) : Array Value := #[.int .i64 f.ty, .int .i64 f.str, .int .i64 f.off, .string f.s, .bool f.fin, .int .i64 f.max, .int .i64 f.code, .bool f.uni, .int .i64 f.delay, f.ranges, .int .i64 f.seq, .int .i64 f.retire, .string f.cid]
def Fr.val (f : Fr) : Value := .agg f.cells
def mkFr (ty off : Int) (s : ByteArray) (fin : Bool) : Fr := ⟨ty, 0, off, s, fin, 0, 0, false, 0, .slice none 0 0, 0, 0, ⟨#[]⟩⟩
def setTo (st : List Int) (v : Int) (i : Nat) : Nat → List Int
  | 0 => st
  | n + 1 => (setTo st v i n).set (i + n) v
theorem setTo_length (st : List Int) (v : Int) (i n : Nat) : (setTo st v i n).length = st.length := by
  induction n with
  | zero => rfl
  | succ n ih => simp [setTo, ih]
theorem Rep.setState {w : World} {b : Nat} {F : Nat → Prop} {B : Bf} {vd : Value} {g cap n : Nat} (R : Rep w b F B vd (.slice (some ⟨g, 0, none⟩) n cap)) (k : Nat) (_hk : k < B.st.length) (v : Int) :
    Rep (w.setCell ⟨g, k, none⟩ (.int .u8 v)) b F { B with st := B.st.set k v } vd (.slice (some ⟨g, 0, none⟩) n cap) ∧ Chg F w (w.setCell ⟨g, k, none⟩ (.int .u8 v)) := by
  have hgb := R.fs g rfl
  refine ⟨⟨(heap_setCell_other w _ b _ (fun e => hgb.2.1 e.symm)).trans R.obj, own_same R.rd (fun j hj => heap_setCell_other w _ j _ (fun e => hgb.2.2 (by rw [hj]; exact congrArg some e))), ?_, R.fb, R.fd, R.fs⟩, (Chg.refl F w).set g k _ hgb.1⟩
  obtain ⟨hl, h⟩ := R.rs
  rcases h with ⟨e, _⟩ | ⟨g', cap', cur, e, h2, h3, h4, h5, h6, h7⟩
  · cases e
  · simp only [Value.slice.injEq, Option.some.injEq, Addr.mk.injEq] at e
    obtain ⟨⟨rfl, _, _⟩, rfl, rfl⟩ := e
    refine ⟨by simp, .inr ⟨g, cap, cur.setIfInBounds k (.int .u8 v), by simp, h2, heap_set _ h3, by simpa using h4, h5, by simpa using h6, ?_⟩⟩
    simp only [List.length_set, Nat.mul_one] at *
    rw [Array.toList_setIfInBounds, List.take_set, h7, List.map_set]
end Go.Proofs.Ytmjekepiplibkaa
