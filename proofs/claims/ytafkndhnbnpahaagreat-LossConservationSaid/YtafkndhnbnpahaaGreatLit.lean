/- Law 13: the literal of a map in frame.parts: its operations as a table, and what holds in every order. Printed by gen/mkLit.py. -/
import Derived.Test.YtafkndhnbnpahaaGreatI
import Derived.Test.YtafkndhnbnpahaaGreatInv
namespace Go.Proofs.YtafkndhnbnpahaaGreat
open Go.RowKit Go.Maps
inductive Sp
  | mk
  | ld (p : Nat)
  | sl (xs : List Nat)
  | ins (k : Int) (t : Nat)
  | cl (f : Nat) (args : List Int)
  | mv (t : Nat)
  | asg (t : Nat)
def Sp.op : Sp → Op
  | .mk => .makeMap 117 none
  | .ld p => .load 124 (.tmp p)
  | .sl xs => .buildSlice 115 xs.length ((xs.zipIdx.map fun x => (x.2, Operand.tmp x.1)).toArray)
  | .ins k t => .insert 117 (.tmp 25) (.const (.int .i64 k)) (.tmp t)
  | .cl f args => .call { callee := .value (.func f), args := (args.map fun n => Operand.const (.int .i64 n)).toArray, argTypes := (args.map fun _ => 3).toArray }
  | .mv t => .move (.tmp t)
  | .asg t => .assign (.tmp t)
def Sp.needs : Sp → List Nat
  | .sl xs => xs
  | .ins _ t => [25, t]
  | .mv t => [t]
  | .asg t => [t]
  | _ => []
def rows : List (Option Nat × Sp) := [
  (some 25, .mk), (some 26, .sl []), (none, .ins 0 26), (some 27, .sl []), (none, .ins 1 27), (some 28, .sl []),
  (none, .ins 30 28), (some 29, .ld 7), (some 30, .ld 12), (some 31, .sl [29, 30]), (none, .ins 2 31), (some 32, .ld 1),
  (some 33, .ld 4), (some 34, .ld 3), (some 35, .sl [32, 33, 34]), (none, .ins 4 35), (some 36, .ld 1), (some 37, .ld 4),
  (some 38, .sl [36, 37]), (none, .ins 5 38), (some 39, .ld 5), (some 40, .ld 8), (some 41, .sl [39, 40]), (none, .ins 6 41),
  (some 42, .cl 93 [1, 128]), (some 43, .sl [42]), (none, .ins 7 43), (some 44, .ld 1), (some 45, .ld 5), (some 46, .ld 8),
  (some 47, .sl [44, 45, 46]), (none, .ins 8 47), (some 48, .ld 2), (some 49, .sl [48]), (none, .ins 16 49), (some 50, .ld 2),
  (some 51, .sl [50]), (none, .ins 20 51), (some 52, .ld 1), (some 53, .ld 2), (some 54, .sl [52, 53]), (none, .ins 17 54),
  (some 55, .ld 1), (some 56, .ld 2), (some 57, .sl [55, 56]), (none, .ins 21 57), (some 58, .cl 100 []), (some 59, .ld 2),
  (some 60, .sl [58, 59]), (none, .ins 18 60), (some 61, .cl 100 []), (some 62, .ld 2), (some 63, .sl [61, 62]), (none, .ins 22 63),
  (some 64, .ld 6), (some 65, .cl 101 []), (some 66, .ld 11), (some 67, .sl [64, 65, 66]), (none, .ins 24 67), (some 68, .ld 6),
  (some 69, .sl [68]), (none, .ins 25 69), (some 70, .ld 10), (some 71, .sl [70]), (none, .ins 26 71), (some 72, .ld 10),
  (some 73, .sl [72]), (none, .ins 27 73), (some 74, .ld 4), (some 75, .ld 9), (some 76, .sl [74, 75]), (none, .ins 28 76),
  (some 77, .ld 4), (some 78, .ld 9), (some 79, .sl [77, 78]), (none, .ins 29 79), (some 80, .mv 25), (some 0, .asg 80)]
/-- which operation sets slot t -/
def ix (t : Nat) : Nat := rows.findIdx fun r => r.1 == some t
/-- the operations are the table's, and each waits for what it reads -/
structure Tab (ops : Array Oper) : Prop where
  form : ops.toList.map (fun o => (o.dst, o.op, o.guard)) = rows.map (fun r => (r.1, r.2.op, none))
  deps : ((List.range 78).all fun i => match ops[i]?, rows[i]? with
    | some o, some r => r.2.needs.all fun t => o.after.any fun e => Region.binds .any e && e.on == ix t
    | _, _ => false) = true
  up : upward ops = true
theorem rows_ix : ((List.range 78).all fun i => match rows[i]? with
    | some (some d, _) => ix d == i
    | _ => true) = true := by decide +kernel
theorem rows_len : rows.length = 78 := by decide +kernel
theorem ix_of {i d : Nat} {s : Sp} (h : rows[i]? = some (some d, s)) : ix d = i := by
  have hi : i < 78 := rows_len ▸ (List.getElem?_eq_some_iff.1 h).1
  have := List.all_eq_true.1 rows_ix i (List.mem_range.2 hi)
  rw [h] at this
  simpa using this
variable {ops : Array Oper}
theorem Tab.row (T : Tab ops) {i : Nat} {o : Oper} (h : ops[i]? = some o) : ∃ s, rows[i]? = some (o.dst, s) ∧ o.op = s.op ∧ o.guard = none := by
  have h1 : (ops.toList.map (fun o => (o.dst, o.op, o.guard)))[i]? = some (o.dst, o.op, o.guard) := by
    rw [List.getElem?_map, Array.getElem?_toList, h]; rfl
  rw [T.form, List.getElem?_map] at h1
  cases hr : rows[i]? with
  | none => rw [hr] at h1; cases h1
  | some r =>
    rw [hr] at h1
    obtain ⟨d, s⟩ := r
    simp only [Option.map_some, Option.some.injEq, Prod.mk.injEq] at h1
    obtain ⟨rfl, h2, h3⟩ := h1
    exact ⟨s, rfl, h2.symm, h3.symm⟩
theorem Tab.needs (T : Tab ops) {i t : Nat} {o : Oper} {d : Option Nat} {s : Sp} (h : ops[i]? = some o) (hr : rows[i]? = some (d, s)) (ht : t ∈ s.needs) {L : Nat → Bool}
    (hL : ∀ e ∈ o.after, Region.binds .any e = true → L e.on = true) : L (ix t) = true := by
  have hi : i < 78 := rows_len ▸ (List.getElem?_eq_some_iff.1 hr).1
  have := List.all_eq_true.1 T.deps i (List.mem_range.2 hi)
  rw [h, hr] at this
  have := List.all_eq_true.1 this t ht
  obtain ⟨j, hj, he⟩ := Array.any_eq_true.1 this
  simp only [Bool.and_eq_true, beq_iff_eq] at he
  rw [← he.2]
  exact hL _ (Array.getElem_mem hj) he.1
end Go.Proofs.YtafkndhnbnpahaaGreat
