/- Texts Zeros B C D E E2 E3 of this claim, one behind the other. -/
import Derived.Test.YtpfkeohaaeiaaaaDoorWm6
import Derived.Deep.RegionLaw
import Derived.Laws.BytesArg
/- 'append(own, make([]T, m)...)' -/
namespace Go.Proofs.YtpfkeohaaeiaaaaDoor
open Go.RowKit
section
variable {P : Program}
theorem run_append_zeros (w : World) (m : Nat) (base : Nat) (t tx ty e : TypeId) (i : TypeInfo) (z : Value) (size bytes : Nat) (ht : P.underlying t = some (.slice e)) (k : IntKind) (hk : P.underlying tx = some (.int k)) (hi : P.info? e = some i) (hz : i.zero = some z)
    (hsize : i.size = size) (hby : i.bytes = bytes) (hzs : z.cells.size = size) (hsz : 0 < size) (hz1 : ∀ u ∈ (Builtin.zeroCells z.cells m).toList, u.oneCell' = true)
    (v : Value) (n : Nat) (xs : List Value) (hown : w.ownsRow base e size v n xs) (hm : 0 < m)
    (h63 : n + m ≤ maxLen) (hbytes : (n + m) * bytes ≤ 140737488355328) (hbase : base ≤ w.heap.size) :
    ∃ v' w', (Builtin.append_ #[t, tx] ty #[v, .int .i64 m]).run P w = .ok v' w' ∧ w'.ownsRow base e size v' (n + m) (xs ++ (Builtin.zeroCells z.cells m).toList) ∧ w.grownBy w' v.ownBlock ∧ ∀ k, v'.ownBlock = some k → v.ownBlock = some k ∨ w.heap.size ≤ k := by
  subst hsize
  subst hby
  have hsmall : n + m ≤ 9223372036854775807 := by simp only [maxLen] at h63; omega
  have hwr : IntKind.i64.wrap (m : Int) = m := IntWalk.i64_in _ (by omega)
  have hb2 : ¬ (281474976710656 : Int) < (m : Int) * (i.bytes : Int) := by
    have : m * i.bytes ≤ (n + m) * i.bytes := Nat.mul_le_mul_right _ (Nat.le_add_left _ _)
    have : ((m * i.bytes : Nat) : Int) ≤ 140737488355328 := by omega
    rw [Int.natCast_mul] at this
    omega
  have hneg : ¬ ((m : Int) < 0) := by omega
  have hms : ¬ (m * i.size = 0) := by
    intro h
    rcases Nat.mul_eq_zero.1 h with h | h <;> omega
  have hm0 : m ≠ 0 := by omega
  have hs0 : i.size ≠ 0 := by omega
  have hl : (Builtin.zeroCells z.cells m).toList.length = m * i.size := by rw [Array.length_toList, size_zeroCells, hzs]
  rcases hown.2 with ⟨rfl, rfl⟩ | ⟨g, cap, cur, rfl, hbg, hg, hnc, hcm, hcs, htake⟩
  · have hx : xs = [] := List.eq_nil_of_length_eq_zero (by simpa using hown.1)
    subst hx
    have ha := new_after w base e z i.size 0 m [] (Builtin.zeroCells z.cells m).toList 0 (Value.ownBlock (.slice none 0 0)) hzs (by simp) hl h63 hbase
    refine ⟨_, _, ?_, ha.1, ha.2, fun k hk => .inr (by cases hk; exact Nat.le_refl _)⟩
    have h48' : ¬ (281474976710656 < Builtin.nextslicecap m 0 * i.bytes) := by
      have := growslice_fits (need := 0 + m) (old := 0) (by omega) hbytes
      simpa using this
    have h63' : ¬ (9223372036854775807 < (m : Int)) := by omega
    simp [Builtin.append_, run_underlying ht, run_underlying hk, sizeOf, typeInfo, zeroValue, hi, hz, hwr, hneg, hb2, hms, hm0, h63', h48', Question.forced, newRow, grownCap, Builtin.firstCells, asInt, asIntOf]
    done
  · by_cases hroom : n + m ≤ cap
    · have hfit : n * i.size + (Builtin.zeroCells z.cells m).toList.length ≤ cur.size := by rw [hl, hcs, ← Nat.add_mul]; exact Nat.mul_le_mul_right _ hroom
      have hst := run_storeCells_at (P := P) g (n * i.size) e (Builtin.zeroCells z.cells m).toList 0 cur w hg (by simpa using hfit) hz1
      simp only [Nat.add_zero] at hst
      have ha := own_after w base e i.size n m xs (Builtin.zeroCells z.cells m).toList g cap cur hbg hg hcm hcs htake hown.1 hl hroom
      refine ⟨_, _, ?_, ha.1, ha.2, fun k hk => .inl hk⟩
      have hadd : (⟨g, 0, none⟩ : Addr).add (n * i.size) = ⟨g, n * i.size, none⟩ := by rw [add_plain, Nat.zero_add]
      simp [Builtin.append_, run_underlying ht, run_underlying hk, sizeOf, typeInfo, zeroValue, hi, hz, hwr, hneg, hb2, hms, hroom, hadd, hst, asInt, asIntOf]
      done
    · have holds : ∀ j u, xs[j]? = some u → w.cell? ((⟨g, 0, none⟩ : Addr).add j) = some u := hown.cells (g := g) rfl
      have hold := run_firstCells_some (P := P) w.drew i.size n ⟨g, 0, none⟩ n cap xs hown.1 (by simpa using holds)
      have ha := new_after w base e z i.size n m xs (Builtin.zeroCells z.cells m).toList cap (some g) hzs hown.1 hl h63 hbase
      refine ⟨_, _, ?_, ha.1, ha.2, fun k hk => .inr (by cases hk; exact Nat.le_refl _)⟩
      have h48' : ¬ (281474976710656 < Builtin.nextslicecap (n + m) cap * i.bytes) := by
        have := growslice_fits (need := n + m) (old := cap) (by omega) hbytes
        simpa using this
      have h63' : ¬ (9223372036854775807 < (n : Int) + (m : Int)) := by omega
      simp [Builtin.append_, run_underlying ht, run_underlying hk, sizeOf, typeInfo, zeroValue, hi, hz, hwr, hneg, hb2, hms, hroom, h63', h48', Question.forced, hold, newRow, grownCap, asInt, asIntOf]
      congr 2
      apply Array.ext'
      simp [List.append_assoc]
theorem zeroCells_int (k : IntKind) (m : Nat) : (Builtin.zeroCells (Value.int k 0).cells m).toList = (List.replicate m (0 : Int)).map (Value.int k) := by
  apply List.ext_getElem?
  intro j
  simp only [Builtin.zeroCells, Value.cells, Array.toList_map, List.getElem?_map, Array.toList_range, List.getElem?_replicate]
  by_cases h : j < m
  · simp [h, Nat.mod_one]
  · simp [h]
theorem step_append_src {ops : Array Oper} {o : Oper} {a : Act} {w : World} {K : Act → World → Prop} {Q : Exit → Act → World → Prop} {E : Prop} (hgd : o.guard = none) (s x : Operand) (t tx : TypeId)
    (ho : o.op = .call { callee := .builtin .append, args := #[s, x], argTypes := #[t, tx] })
    (base : Nat) (e : TypeId) (i : TypeInfo) (z : Value) (size bytes : Nat) (ht : P.underlying t = some (.slice e)) (hi : P.info? e = some i) (hz : i.zero = some z)
    (hsize : i.size = size) (hby : i.bytes = bytes) (hzs : z.cells.size = size) (hsz : 0 < size)
    (v : Value) (n : Nat) (xs : List Value) (hs : a.eval s = v) (hown : w.ownsRow base e size v n xs)
    (sv : Value) (m : Nat) (news : List Value) (hx : a.eval x = sv) (hsrc : Src P size tx sv m news w)
    (h63 : n + m ≤ maxLen) (hbytes : (n + m) * bytes ≤ 140737488355328) (hbase : base ≤ w.heap.size)
    (h : ∀ v' w', w'.ownsRow base e size v' (n + m) (xs ++ news) → w.grownBy w' v.ownBlock → (∀ k, v'.ownBlock = some k → v.ownBlock = some k ∨ w.heap.size ≤ k) → K (a.put o.dst v') w') :
    if Region.wanted o (yielded ops a.tmps) = true then Oper.wp P o a w K Q else E := by
  have hw : Region.wanted o (yielded ops a.tmps) = true := by simp [Region.wanted, hgd]
  rw [if_pos hw]
  obtain ⟨v', w', hr, h2, h3, h4⟩ := run_append_src (P := P) w base t tx o.type e i z size bytes ht hi hz hsize hby hzs hsz v n xs hown sv m news hsrc h63 hbytes hbase
  unfold Oper.wp execOp
  simp only [ho, resolve, invoke, builtin, Sem.run_bind, Sem.run_pure, Result.andThen_ok, List.map_toArray, List.map_cons, List.map_nil, hs, hx, hr]
  exact h v' w' h2 h3 h4
theorem wp_append_zeros {o : Oper} {a : Act} {w : World} {K : Act → World → Prop} {Q : Exit → Act → World → Prop} (s x : Operand) (t tx : TypeId)
    (ho : o.op = .call { callee := .builtin .append, args := #[s, x], argTypes := #[t, tx] })
    (m : Nat) (base : Nat) (e : TypeId) (i : TypeInfo) (z : Value) (size bytes : Nat) (ht : P.underlying t = some (.slice e)) (k : IntKind) (hk : P.underlying tx = some (.int k)) (hi : P.info? e = some i) (hz : i.zero = some z)
    (hsize : i.size = size) (hby : i.bytes = bytes) (hzs : z.cells.size = size) (hsz : 0 < size) (hz1 : ∀ u ∈ (Builtin.zeroCells z.cells m).toList, u.oneCell' = true)
    (v : Value) (n : Nat) (xs : List Value) (hs : a.eval s = v) (hown : w.ownsRow base e size v n xs) (hx : a.eval x = .int .i64 m) (hm : 0 < m)
    (h63 : n + m ≤ maxLen) (hbytes : (n + m) * bytes ≤ 140737488355328) (hbase : base ≤ w.heap.size)
    (h : ∀ v' w', w'.ownsRow base e size v' (n + m) (xs ++ (Builtin.zeroCells z.cells m).toList) → w.grownBy w' v.ownBlock → (∀ k, v'.ownBlock = some k → v.ownBlock = some k ∨ w.heap.size ≤ k) → K (a.put o.dst v') w') : o.wp P a w K Q := by
  obtain ⟨v', w', hr, h2, h3, h4⟩ := run_append_zeros (P := P) w m base t tx o.type e i z size bytes ht k hk hi hz hsize hby hzs hsz hz1 v n xs hown hm h63 hbytes hbase
  unfold Oper.wp execOp
  simp only [ho, resolve, invoke, builtin, Sem.run_bind, Sem.run_pure, Result.andThen_ok, List.map_toArray, List.map_cons, List.map_nil, hs, hx, hr]
  exact h v' w' h2 h3 h4
theorem wpList_append_zeros {ops : Array Oper} {rest : List Oper} {o : Oper} {a : Act} {w : World} {Q : Exit → Act → World → Prop} (hgd : o.guard = none) (s x : Operand) (t tx : TypeId)
    (ho : o.op = .call { callee := .builtin .append, args := #[s, x], argTypes := #[t, tx] })
    (m : Nat) (base : Nat) (e : TypeId) (i : TypeInfo) (z : Value) (size bytes : Nat) (ht : P.underlying t = some (.slice e)) (k : IntKind) (hk : P.underlying tx = some (.int k)) (hi : P.info? e = some i) (hz : i.zero = some z)
    (hsize : i.size = size) (hby : i.bytes = bytes) (hzs : z.cells.size = size) (hsz : 0 < size) (hz1 : ∀ u ∈ (Builtin.zeroCells z.cells m).toList, u.oneCell' = true)
    (v : Value) (n : Nat) (xs : List Value) (hs : a.eval s = v) (hown : w.ownsRow base e size v n xs) (hx : a.eval x = .int .i64 m) (hm : 0 < m)
    (h63 : n + m ≤ maxLen) (hbytes : (n + m) * bytes ≤ 140737488355328) (hbase : base ≤ w.heap.size)
    (h : ∀ v' w', w'.ownsRow base e size v' (n + m) (xs ++ (Builtin.zeroCells z.cells m).toList) → w.grownBy w' v.ownBlock → (∀ k, v'.ownBlock = some k → v.ownBlock = some k ∨ w.heap.size ≤ k) → wpList P ops Q rest (a.put o.dst v') w') : wpList P ops Q (o :: rest) a w :=
  wpList_plain hgd fun _ hK => wp_append_zeros s x t tx ho m base e i z size bytes ht k hk hi hz hsize hby hzs hsz hz1 v n xs hs hown hx hm h63 hbytes hbase fun v' w' h2 h3 h4 => hK _ _ (h v' w' h2 h3 h4)
end
end Go.Proofs.YtpfkeohaaeiaaaaDoor
namespace Go.Proofs.YtpfkeohaaeiaaaaDoor
open Go.RowKit
set_option maxRecDepth 100000
def bytesOf (s : ByteArray) : List Int := s.data.toList.map fun b => (b.toNat : Int)
theorem byteCells_of (s : ByteArray) : byteCells s = (bytesOf s).map (.int .u8) := by
  unfold byteCells bytesOf
  rw [List.map_map]
  rfl
theorem bytesOf_length (s : ByteArray) : (bytesOf s).length = s.size := by
  unfold bytesOf
  rw [List.length_map, Array.length_toList]
  rfl
theorem bytesOf_take (s : ByteArray) (n : Nat) : bytesOf (s.extract 0 n) = (bytesOf s).take n := by
  simp [bytesOf, ByteArray.data_extract, List.map_take]
def writeN (B : Bf) (s : ByteArray) : Nat := min s.size (spaceF B).toNat
def writeF (B : Bf) (s : ByteArray) : Bf := { B with data := B.data ++ (bytesOf s).take (writeN B s), st := B.st ++ List.replicate (writeN B s) 0 }
theorem Rep.heapb {w w3 : World} {b : Nat} {F : Nat → Prop} {B : Bf} {vd vs : Value} (R : Rep w b F B vd vs) {v : Value} (hv : v = vd ∨ v = vs) (hg : w.grownBy w3 v.ownBlock) : w3.heap[b]? = some (.cells (B.cells vd vs) 63 (0, 0)) :=
  (hg.block b (heap_lt R.obj) (fun e => by rcases hv with rfl | rfl; exact (R.fd b e.symm).2 rfl; exact (R.fs b e.symm).2.1 rfl)).trans R.obj
theorem Rep.newData {w w3 : World} {b : Nat} {F : Nat → Prop} {B B' : Bf} {vd vs v1 : Value} (R : Rep w b F B vd vs) (hg : w.grownBy w3 vd.ownBlock) (hk : ∀ k, v1.ownBlock = some k → vd.ownBlock = some k ∨ w.heap.size ≤ k)
    (ho : w3.ownsRow 0 5 1 v1 B'.data.length (B'.data.map (.int .u8))) (e : (B.cells vd vs).setIfInBounds 2 v1 = B'.cells v1 vs) (hs : B'.st = B.st) :
    Chg F w (w3.setCell ⟨b, 2, none⟩ v1) ∧ Rep (w3.setCell ⟨b, 2, none⟩ v1) b (Ext F w (w3.setCell ⟨b, 2, none⟩ v1)) B' v1 vs := by
  have hb := R.heapb (.inl rfl) hg
  have hvd : ∀ k, v1.ownBlock = some k → k ≠ b := fun k h e => by
    subst e
    rcases hk k h with h1 | h1
    · exact (R.fd k h1).2 rfl
    · exact Nat.not_le.2 (heap_lt R.obj) h1
  have hvs : ∀ k, vs.ownBlock = some k → w3.heap[k]? = w.heap[k]? := fun k h => hg.block k (own_lt R.rs k h) (fun e => (R.fs k h).2.2 e.symm)
  refine ⟨(Chg.grownO hg (fun k h => (R.fd k h).1)).set b 2 _ R.fb, ⟨by rw [heap_set v1 hb, e], own_same ho (fun k h => heap_setCell_other w3 _ k v1 (hvd k h)), ?_, .inl R.fb, fun k h => ⟨?_, hvd k h⟩, fun k h => ⟨.inl (R.fs k h).1, (R.fs k h).2.1, fun h1 => ?_⟩⟩⟩
  · rw [hs]
    exact own_same R.rs (fun k h => (heap_setCell_other w3 _ k v1 (R.fs k h).2.1).trans (hvs k h))
  · rcases hk k h with h1 | h1
    · exact .inl (R.fd k h1).1
    · exact .inr ⟨h1, by simpa using own_lt ho k h⟩
  · rcases hk k h1 with h2 | h2
    · exact (R.fs k h).2.2 h2
    · exact Nat.not_le.2 (own_lt R.rs k h) h2
theorem Rep.newStates {w w3 : World} {b : Nat} {F : Nat → Prop} {B B' : Bf} {vd vs v1 : Value} (R : Rep w b F B vd vs) (hg : w.grownBy w3 vs.ownBlock) (hk : ∀ k, v1.ownBlock = some k → vs.ownBlock = some k ∨ w.heap.size ≤ k)
    (ho : w3.ownsRow 0 61 1 v1 B'.st.length (B'.st.map (.int .u8))) (e : (B.cells vd vs).setIfInBounds 3 v1 = B'.cells vd v1) (hs : B'.data = B.data) :
    Chg F w (w3.setCell ⟨b, 3, none⟩ v1) ∧ Rep (w3.setCell ⟨b, 3, none⟩ v1) b (Ext F w (w3.setCell ⟨b, 3, none⟩ v1)) B' vd v1 := by
  have hb := R.heapb (.inr rfl) hg
  have hvd : ∀ k, v1.ownBlock = some k → k ≠ b := fun k h e => by
    subst e
    rcases hk k h with h1 | h1
    · exact (R.fs k h1).2.1 rfl
    · exact Nat.not_le.2 (heap_lt R.obj) h1
  have hvs : ∀ k, vd.ownBlock = some k → w3.heap[k]? = w.heap[k]? := fun k h => hg.block k (own_lt R.rd k h) (fun e => (R.fs k e.symm).2.2 h)
  refine ⟨(Chg.grownO hg (fun k h => (R.fs k h).1)).set b 3 _ R.fb, ⟨by rw [heap_set v1 hb, e], ?_, own_same ho (fun k h => heap_setCell_other w3 _ k v1 (hvd k h)), .inl R.fb, fun k h => ⟨.inl (R.fd k h).1, (R.fd k h).2⟩, fun k h => ⟨?_, hvd k h, fun h1 => ?_⟩⟩⟩
  · rw [hs]
    exact own_same R.rd (fun k h => (heap_setCell_other w3 _ k v1 (R.fd k h).2).trans (hvs k h))
  · rcases hk k h with h1 | h1
    · exact .inl (R.fs k h1).1
    · exact .inr ⟨h1, by simpa using own_lt ho k h⟩
  · rcases hk k h with h2 | h2
    · exact (R.fs k h2).2.2 h1
    · exact Nat.not_le.2 (own_lt R.rd k h1) h2
theorem ext_ext {F : Nat → Prop} {w w1 w4 w6 : World} (h1 : w.heap.size ≤ w1.heap.size) (h2 : w1.heap.size ≤ w4.heap.size) (h3 : w4.heap.size ≤ w6.heap.size) (k : Nat) (h : Ext (Ext F w1 w4) w4 w6 k) : Ext F w w6 k := by
  rcases h with (h | h) | h
  · exact .inl h
  · exact .inr ⟨by omega, by omega⟩
  · exact .inr ⟨by omega, by omega⟩
theorem ext_left {F : Nat → Prop} {w w1 w4 : World} (h1 : w.heap.size ≤ w1.heap.size) (k : Nat) (h : Ext F w1 w4 k) : Ext F w w4 k := by
  rcases h with h | h
  · exact .inl h
  · exact .inr ⟨by omega, h.2⟩
set_option maxRecDepth 100000 in
theorem facts5 : (∃ i, Tryd.prog.info? 5 = some i ∧ i.zero = some (.int .u8 0) ∧ i.size = 1 ∧ i.bytes = 1) := ⟨_, rfl, rfl, rfl, rfl⟩
set_option maxRecDepth 100000 in
theorem facts57 : (∃ i, Tryd.prog.info? 61 = some i ∧ i.zero = some (.int .u8 0) ∧ i.size = 1 ∧ i.bytes = 1) := ⟨_, rfl, rfl, rfl, rfl⟩
theorem one_u8 (m : Nat) : ∀ u ∈ (Builtin.zeroCells (Value.int .u8 0).cells m).toList, u.oneCell' = true := by
  rw [zeroCells_int]; exact ints_oneCell _ _
set_option maxHeartbeats 1000000 in
theorem write_any (b : Nat) (F : Nat → Prop) (B : Bf) (s : ByteArray) (w : World) (h : Inv w b F B) (hg : Good B) (_hs : s.size ≤ maxLen) :
    Calls Tryd.prog 11 #[.pointer (some ⟨b, 0, none⟩), .string s] w fun e w' => e = .returned (.int .i64 (writeN B s : Int)) ∧ Chg F w w' ∧ Inv w' b (Ext F w w') (writeF B s) := by
  have SP := Lib.hid (fun m => space_any b F B (w.drewN m) (h.drewN m) hg)
  obtain ⟨i5, p1, p2, p3, p4⟩ := facts5
  have P1 := Lib.hid p1; have P2 := Lib.hid p2; have P3 := Lib.hid p3; have P4 := Lib.hid p4
  clear p1 p2 p3 p4
  obtain ⟨i57, q1, q2, q3, q4⟩ := facts57
  have Q1 := Lib.hid q1; have Q2 := Lib.hid q2; have Q3 := Lib.hid q3; have Q4 := Lib.hid q4
  clear q1 q2 q3 q4
  obtain ⟨l1, l2, b0, b1, len, cp, s0, s1⟩ := hg
  have hsp : 0 ≤ spaceF B ∧ spaceF B ≤ 8192 := by unfold spaceF; split <;> omega
  obtain ⟨n, hn⟩ : ∃ n, writeN B s = n := ⟨_, rfl⟩
  have hmin : (n : Int) ≤ s.size ∧ (n : Int) ≤ spaceF B := by unfold writeN at hn; omega
  have HW := Lib.hid (show writeF B s = { B with data := B.data ++ (bytesOf s).take n, st := B.st ++ List.replicate n 0 } from by unfold writeF; rw [hn])
  obtain ⟨vd, vs, h⟩ := h
  have HR := Lib.hid h
  rw [hn]
  have hmn : (if spaceF B < (s.size : Int) then spaceF B else (s.size : Int)) = n := by unfold writeN at hn; split <;> omega
  clear hn
  generalize spaceF B = sp at *
  obtain ⟨hm1, hm2⟩ := hmin
  have hn9 : n ≤ 8192 := by omega
  by_cases h0 : n = 0
  · subst h0
    go_enter Tryd.func11, Tryd.ntmps11
    go_wp2_with (go_at_call 27; refine (SP.out 0).mono ?_; rintro e w' ⟨rfl, m, rfl⟩)
    all_goals go_ret
    refine ⟨rfl, ⟨rfl, rfl, rfl, Nat.le_refl _, fun _ _ _ => rfl⟩, vd, vs, ?_⟩
    rw [HW.out]
    simpa using (HR.out.drewN m).ext (fun k h => .inl h)
  · have hns : n ≤ s.size := by omega
    have hsz : (s.extract 0 n).size = n := by simp [ByteArray.size_extract]; omega
    have HS := Lib.hid hsz
    have hd9 : B.data.length ≤ 8192 := by omega
    have hs9 : B.st.length ≤ 8192 := by omega
    clear hsz len
    go_enter Tryd.func11, Tryd.ntmps11
    go_wp2_with (go_at_call 27; refine (SP.out 0).mono ?_; rintro e w' ⟨rfl, m, rfl⟩)
    have HR1 := Lib.hid (HR.out.drewN m)
    have HC : Hid (Chg F w (w.drewN m)) := Lib.hid ⟨rfl, rfl, rfl, Nat.le_refl _, fun _ _ _ => rfl⟩
    change Code.wp _ _ _ _ (w.drewN m)
    generalize w.drewN m = w1 at *
    obtain ⟨c0, c1, c2, c3, c4, c5, c6, fr⟩ := HR1.out.facts
    clear c0 c1 c3 c4 c5 c6
    go_region_law ((refine step_append_src (by rfl) _ _ _ _ (by rfl) 0 5 i5 _ 1 1 Tryd.underlying59 P1.out P2.out P3.out P4.out rfl (by omega) vd B.data.length _ (by rfl) HR1.out.drew.rd (.string (s.extract 0 n)) _ _ (by rfl) (Src.ofString _ Tryd.underlying9 _) (by rw [HS.out]; unfold maxLen; omega) (by rw [HS.out]; omega) (Nat.zero_le _) ?_; intro v1 w3 ho1 hg1 hk1; obtain ⟨a1, cap1, rfl, hcap1⟩ := own_form ho1; have c2' := (cell_whole (HR1.out.drew.heapb (.inl rfl) hg1) 2).trans (rfl : _ = some vd); have fr' := frozen_whole (HR1.out.drew.heapb (.inl rfl) hg1)))
    all_goals
      have hL : B.data.length + (s.extract 0 n).size = B.data.length + n := by rw [HS.out]
      rw [hL] at ho1 hk1 hcap1
      have hdl : (B.data ++ (bytesOf s).take n).length = B.data.length + n := by rw [List.length_append, List.length_take, bytesOf_length]; omega
      have N1 := Lib.hid (Rep.newData (B' := { B with data := B.data ++ (bytesOf s).take n }) HR1.out.drew hg1 hk1 (by rw [byteCells_of, bytesOf_take, ← List.map_append] at ho1; simpa only [hdl] using ho1) rfl rfl)
      have C1 := Lib.hid (show Chg F w _ from HC.out.trans1 ((Chg.refl F w1).drew.trans1 N1.out.1))
      clear ho1 hk1 hcap1 hg1 c2' fr' c2 fr
      generalize w3.setCell ⟨b, 2, none⟩ (Value.slice a1 (B.data.length + n) cap1) = w4 at *
      generalize hV : Value.slice a1 (B.data.length + n) cap1 = vd1 at *
      have hW1 : w1.heap.size ≤ w4.heap.size := N1.out.1.size
      obtain ⟨c0, c1, c2, c3, c4, c5, c6, fr⟩ := N1.out.2.facts
      clear c0 c1 c2 c4 c5 c6
      go_wp2_with (at_builtin; refine wpList_append_zeros rfl _ _ _ _ rfl n 0 61 i57 _ 1 1 Tryd.underlying60 .i64 Tryd.underlying3 Q1.out Q2.out Q3.out Q4.out rfl (by omega) (one_u8 n) vs B.st.length _ rfl N1.out.2.rs rfl (by omega) (by unfold maxLen; omega) (by omega) (Nat.zero_le _) ?_; intro v2 w5 ho2 hg2 hk2; obtain ⟨a2, cap2, rfl, hcap2⟩ := own_form ho2; have c3' := (cell_whole (N1.out.2.heapb (.inr rfl) hg2) 3).trans (rfl : _ = some vs); have fr' := frozen_whole (N1.out.2.heapb (.inr rfl) hg2))
      have hsl : (B.st ++ List.replicate n 0).length = B.st.length + n := by rw [List.length_append, List.length_replicate]
      have N2 := Lib.hid (Rep.newStates (B' := { B with data := B.data ++ (bytesOf s).take n, st := B.st ++ List.replicate n 0 }) N1.out.2 hg2 hk2 (by rw [zeroCells_int, ← List.map_append] at ho2; simpa only [hsl] using ho2) rfl rfl)
      clear ho2 hk2 hcap2 hg2 c3' fr' c3 fr
      go_ret
      have z1 := HC.out.size
      have z2 := N2.out.1.size
      refine ⟨rfl, C1.out.trans (N2.out.1.mono (ext_left z1)), ?_⟩
      rw [HW.out]
      exact ⟨_, _, N2.out.2.ext (ext_ext (w1 := w1.drew) z1 hW1 z2)⟩
end Go.Proofs.YtpfkeohaaeiaaaaDoor
namespace Go.Proofs.YtpfkeohaaeiaaaaDoor
open Go.RowKit
set_option maxRecDepth 100000
theorem own_cells {w : World} {e : TypeId} {v : Value} {n : Nat} {xs : List Int} {k : IntKind} (h : w.ownsRow 0 e 1 v n (xs.map (.int k))) (h0 : 0 < n) :
    ∃ g cap, v = .slice (some ⟨g, 0, none⟩) n cap ∧ n ≤ cap ∧ cap ≤ maxLen ∧ (∀ j, j < n → w.cell? ⟨g, j, none⟩ = some (.int k (xs[j]?.getD 0))) ∧ (∀ j, w.frozen? ⟨g, j, none⟩ = false) := by
  obtain ⟨hl, h⟩ := h
  rcases h with ⟨_, rfl⟩ | ⟨g, cap, cur, rfl, hb, hg, hn, hc, hs, ht⟩
  · omega
  · refine ⟨g, cap, rfl, hn, hc, fun j hj => ?_, frozen_whole hg⟩
    have hj2 : j < xs.length := by simp at hl; omega
    have : (cur.toList.take (n * 1))[j]? = some (.int k (xs[j]?.getD 0)) := by rw [ht]; simp [hj2]
    rw [List.getElem?_take_of_lt (by omega)] at this
    simp only [World.cell?, hg]
    simpa using this
def runGo (most : Int) : List Int → Int → Int → Int → Int × Int
  | [], _, f, t => (f, t)
  | s :: l, i, f, t => if f < t ∧ (s ≠ 2 ∨ t - f = most) then (f, t) else if s = 2 ∧ t = f then runGo most l (i + 1) i (i + 1) else if s = 2 then runGo most l (i + 1) f (t + 1) else runGo most l (i + 1) f t
def runF (B : Bf) (most : Int) : Int × Int := runGo most B.st 0 0 0
set_option maxHeartbeats 1000000 in
theorem run_any (b : Nat) (F : Nat → Prop) (B : Bf) (most : Int) (w : World) (h : Inv w b F B) (hg : Good B) :
    Calls Tryd.prog 28 #[.pointer (some ⟨b, 0, none⟩), .int .i64 most] w fun e w' => e = .returned (.tuple #[.int .i64 (runF B most).1, .int .i64 (runF B most).2]) ∧ w' = w := by
  obtain ⟨vd, vs, h⟩ := h
  have hn9 : B.st.length ≤ 8192 := by have := hg.len; have := hg.cap; have := hg.l2; omega
  have HF := Lib.hid (own_cells h.rs)
  obtain ⟨a, cap, rfl, hcap⟩ := own_form h.rs
  obtain ⟨c0, c1, c2, c3, c4, c5, c6, fr⟩ := h.facts
  clear c0 c1 c2 c4 c5 c6 hg
  obtain ⟨RES, hres⟩ : ∃ R, runF B most = R := ⟨_, rfl⟩
  rw [hres]
  unfold runF at hres
  have HRES := Lib.hid hres
  clear hres
  generalize B.st = st at *
  go_enter Tryd.func28, Tryd.ntmps28
  go_wp2
  go_step3
  go_wp2
  go_step3
  go_wp2
  have hdrop : ∀ k, k < st.length → st.drop k = (st[k]?.getD 0) :: st.drop (k + 1) := fun k hk => by rw [List.drop_eq_getElem_cons hk]; simp [hk]
  have HD := Lib.hid hdrop
  clear hdrop
  go_loopw [4, 5, 13] (fun f t i wr => ∃ (k : Nat) (x y : Int), k ≤ st.length ∧ i = .int .i64 k ∧ f = .int .i64 x ∧ t = .int .i64 y ∧ 0 ≤ x ∧ x ≤ y ∧ y ≤ k ∧ runGo most (st.drop k) k x y = RES ∧ wr = w) (fun _ _ i _ => st.length - (intOf i).toNat)
  case atStart => exact ⟨0, 0, 0, by omega, rfl, rfl, rfl, by omega, by omega, by omega, HRES.out, rfl⟩
  case round =>
    obtain ⟨k, x, y, hk, rfl, rfl, rfl, hx0, hxy, hyk, hR, rfl⟩ := hrel
    by_cases hlt : k < st.length
    · obtain ⟨g, cp, e, hc1, hc2, hcell, hfr⟩ := HF.out (by omega)
      simp only [Value.slice.injEq] at e
      obtain ⟨rfl, _, rfl⟩ := e
      have e1 := hcell k hlt
      unfold maxLen at hc2
      rw [HD.out k hlt, runGo] at hR
      clear hcell hfr
      obtain ⟨s, hs⟩ : ∃ s, st[k]?.getD 0 = s := ⟨_, rfl⟩
      rw [hs] at e1 hR
      clear hs
      by_cases ht : x < y
      · by_cases hs2 : s = 2
        · subst hs2
          by_cases hm : y - x = most
          · have HE : Hid ((x, y) = RES) := Lib.hid (by rw [if_pos ⟨ht, .inr hm⟩] at hR; exact hR)
            clear hR
            go_wp2
            rw [Exit.noGoto_ret]
            go_returns
            exact ⟨by rw [← HE.out]; rfl, rfl⟩
          · rw [if_neg (by rintro ⟨_, h | h⟩ <;> omega), if_neg (by omega), if_pos rfl] at hR
            have HE := Lib.hid hR
            clear hR
            go_wp2
            go_roundw
            case rel => exact ⟨k + 1, x, y + 1, by omega, by simp, rfl, rfl, by omega, by omega, by omega, HE.out, trivial⟩
            case measure => simp [intOf]; omega
        · have HE : Hid ((x, y) = RES) := Lib.hid (by rw [if_pos ⟨ht, .inl hs2⟩] at hR; exact hR)
          clear hR
          go_wp2
          rw [Exit.noGoto_ret]
          go_returns
          exact ⟨by rw [← HE.out]; rfl, rfl⟩
      · obtain rfl : x = y := by omega
        rw [if_neg (by omega)] at hR
        by_cases hs2 : s = 2
        · subst hs2
          rw [if_pos ⟨rfl, rfl⟩] at hR
          have HE := Lib.hid hR
          clear hR
          go_wp2
          go_roundw
          case rel => exact ⟨k + 1, k, k + 1, by omega, by simp, rfl, by simp, by omega, by omega, by omega, HE.out, trivial⟩
          case measure => simp [intOf]; omega
        · rw [if_neg (by omega), if_neg hs2] at hR
          have HE := Lib.hid hR
          clear hR
          go_wp2
          go_roundw
          case rel => exact ⟨k + 1, x, x, by omega, by simp, rfl, rfl, by omega, by omega, by omega, HE.out, trivial⟩
          case measure => simp [intOf]; omega
    · obtain rfl : k = st.length := by omega
      rw [List.drop_length, runGo] at hR
      have HE := Lib.hid hR
      clear hR
      go_wp2
      rw [Exit.noGoto_ret]
      go_returns
      exact ⟨by rw [← HE.out]; rfl, rfl⟩
end Go.Proofs.YtpfkeohaaeiaaaaDoor
namespace Go.Proofs.YtpfkeohaaeiaaaaDoor
open Go.RowKit
set_option maxRecDepth 100000
structure Fr where
  ty : Int
  str : Int
  off : Int
  s : ByteArray
  fin : Bool
  max : Int
  code : Int
  uni : Bool
  delay : Int
  ranges : Value
  seq : Int
  retire : Int
  cid : ByteArray
def Fr.cells (f : Fr) : Array Value := #[.int .i64 f.ty, .int .i64 f.str, .int .i64 f.off, .string f.s, .bool f.fin, .int .i64 f.max, .int .i64 f.code, .bool f.uni, .int .i64 f.delay, f.ranges, .int .i64 f.seq, .int .i64 f.retire, .string f.cid]
def Fr.val (f : Fr) : Value := .agg f.cells
def mkFr (ty off : Int) (s : ByteArray) (fin : Bool) : Fr := ⟨ty, 0, off, s, fin, 0, 0, false, 0, .slice none 0 0, 0, 0, ⟨#[]⟩⟩
def setTo (st : List Int) (v : Int) (i : Nat) : Nat → List Int
  | 0 => st
  | n + 1 => (setTo st v i n).set (i + n) v
theorem setTo_length (st : List Int) (v : Int) (i n : Nat) : (setTo st v i n).length = st.length := by
  induction n with
  | zero => rfl
  | succ n ih => simp [setTo, ih]
theorem Rep.setState {w : World} {b : Nat} {F : Nat → Prop} {B : Bf} {vd : Value} {g cap n : Nat} (R : Rep w b F B vd (.slice (some ⟨g, 0, none⟩) n cap)) (k : Nat) (_hk : k < B.st.length) (v : Int) :
    Rep (w.setCell ⟨g, k, none⟩ (.int .u8 v)) b F { B with st := B.st.set k v } vd (.slice (some ⟨g, 0, none⟩) n cap) ∧ Chg F w (w.setCell ⟨g, k, none⟩ (.int .u8 v)) := by
  have hgb := R.fs g rfl
  refine ⟨⟨(heap_setCell_other w _ b _ (fun e => hgb.2.1 e.symm)).trans R.obj, own_same R.rd (fun j hj => heap_setCell_other w _ j _ (fun e => hgb.2.2 (by rw [hj]; exact congrArg some e))), ?_, R.fb, R.fd, R.fs⟩, (Chg.refl F w).set g k _ hgb.1⟩
  obtain ⟨hl, h⟩ := R.rs
  rcases h with ⟨e, _⟩ | ⟨g', cap', cur, e, h2, h3, h4, h5, h6, h7⟩
  · cases e
  · simp only [Value.slice.injEq, Option.some.injEq, Addr.mk.injEq] at e
    obtain ⟨⟨rfl, _, _⟩, rfl, rfl⟩ := e
    refine ⟨by simp, .inr ⟨g, cap, cur.setIfInBounds k (.int .u8 v), by simp, h2, heap_set _ h3, by simpa using h4, h5, by simpa using h6, ?_⟩⟩
    simp only [List.length_set, Nat.mul_one] at *
    rw [Array.toList_setIfInBounds, List.take_set, h7, List.map_set]
end Go.Proofs.YtpfkeohaaeiaaaaDoor
namespace Go.Proofs.YtpfkeohaaeiaaaaDoor
open Go.RowKit
set_option maxRecDepth 100000
theorem Rep.far {w w' : World} {b : Nat} {F : Nat → Prop} {B : Bf} {vd vs : Value} (h : Rep w b F B vd vs) (hs : ∀ k, (k = b ∨ vd.ownBlock = some k ∨ vs.ownBlock = some k) → w'.heap[k]? = w.heap[k]?) : Rep w' b F B vd vs :=
  ⟨(hs b (.inl rfl)).trans h.obj, own_same h.rd (fun k hk => hs k (.inr (.inl hk))), own_same h.rs (fun k hk => hs k (.inr (.inr hk))), h.fb, h.fd, h.fs⟩
theorem Chg.setRow {F : Nat → Prop} {w W : World} (h : Chg F w W) (r : Nat) (cs : Array Value) (hr : w.heap.size ≤ r) : Chg F w (W.setRow r cs) :=
  ⟨h.os, h.tape, h.output, by simpa using h.size, fun k hk hf => (setRow_other W r k cs (by omega)).trans (h.block k hk hf)⟩
theorem Chg.setFar {F : Nat → Prop} {w W : World} (h : Chg F w W) (r i : Nat) (v : Value) (hr : w.heap.size ≤ r) : Chg F w (W.setCell ⟨r, i, none⟩ v) :=
  ⟨h.os, h.tape, h.output, by simpa using h.size, fun k hk hf => (heap_setCell_other W _ k v (by show k ≠ r; omega)).trans (h.block k hk hf)⟩
def finF (B : Bf) (t : Nat) : Bool := decide (t = B.data.length) && openF B
def sentUp (B : Bf) (t : Nat) : Int := if B.sent < B.base + t then B.base + t else B.sent
def frameB (B : Bf) (f t : Nat) : Bf := { B with st := setTo B.st 1 f (t - f), sent := sentUp B t, ed := if finF B t then 1 else B.ed }
def frameR (B : Bf) (f t : Nat) : Fr := mkFr 8 (B.base + f) (strOfNums ((B.data.drop f).take (t - f))) (finF B t)
theorem size43 (f : Fr) : (Tryd.prog.info? 43).map (·.size) = some f.cells.size := by
  have : (Tryd.prog.info? 43).map (·.size) = some 13 := by kernel_rfl
  rw [this]; rfl
theorem one35 (ty off : Int) (s : ByteArray) (fin : Bool) : (mkFr ty off s fin).cells.all (·.oneCell') = true := by simp [mkFr, Fr.cells, Value.oneCell']
set_option maxHeartbeats 8000000 in
theorem frame_piece (b : Nat) (F : Nat → Prop) (B : Bf) (f t : Nat) (w : World) (h : Inv w b F B) (hg : Good B) (hft : f ≤ t) (ht : t ≤ B.data.length) (hf9 : f < t) :
    Calls Tryd.prog 29 #[.pointer (some ⟨b, 0, none⟩), .int .i64 f, .int .i64 t] w fun e w' => e = .returned (frameR B f t).val ∧ Chg F w w' ∧ Inv w' b (Ext F w w') (frameB B f t) := by
  obtain ⟨vd, vs, h⟩ := h
  obtain ⟨l1, l2, b0, b1, len, cp, s0, s1⟩ := hg
  have hn9 : B.st.length ≤ 8192 := by omega
  have ht2 : t ≤ B.st.length := by omega
  obtain ⟨a2, caps, rfl, hcaps⟩ := own_form h.rs
  obtain ⟨a1, capd, rfl, hcapd⟩ := own_form h.rd
  have HR0 := Lib.hid (h.below (show Below w.heap.size w (w.alloc (.cells (mkFr 0 0 ⟨#[]⟩ false).cells 43)) from (Below.refl _ w).alloc (Nat.le_refl _) _))
  go_enter Tryd.func29, Tryd.ntmps29
  go_wp2
  have HQ0 : Hid ((w.alloc (.cells (mkFr 0 0 ⟨#[]⟩ false).cells 43)).heap[w.heap.size]? = some (.cells (mkFr 0 0 ⟨#[]⟩ false).cells 43 (0, 0))) := Lib.hid (heap_alloc_new w _)
  have HC0 : Hid (Chg F w (w.alloc (.cells (mkFr 0 0 ⟨#[]⟩ false).cells 43))) := Lib.hid (Chg.below ((Below.refl _ w).alloc (Nat.le_refl _) _))
  have HZ0 : Hid ((w.alloc (.cells (mkFr 0 0 ⟨#[]⟩ false).cells 43)).heap.size = w.heap.size + 1) := Lib.hid (by simp)
  have HLT := Lib.hid (own_lt h.rs)
  have HBL := Lib.hid (heap_lt h.obj)
  have HDL := Lib.hid (own_lt h.rd)
  change Code.wp _ _ _ _ (w.alloc (.cells (mkFr 0 0 ⟨#[]⟩ false).cells 43))
  generalize w.alloc (.cells (mkFr 0 0 ⟨#[]⟩ false).cells 43) = W0 at *
  have HFAR : Hid (∀ k, (k = b ∨ (Value.slice a1 B.data.length capd).ownBlock = some k ∨ (Value.slice a2 B.st.length caps).ownBlock = some k) → k < w.heap.size) := Lib.hid (fun k hk => by rcases hk with rfl | hk | hk; exact HBL.out; exact HDL.out k hk; exact HLT.out k hk)
  have hbl0 : b < w.heap.size := HBL.out
  clear h
  go_loopw [7] (fun i wr => ∃ (k : Nat), f ≤ k ∧ k ≤ t ∧ i = .int .i64 k ∧ Rep wr b F { B with st := setTo B.st 1 f (k - f) } (.slice a1 B.data.length capd) (.slice a2 B.st.length caps) ∧ Chg F w wr ∧ wr.heap[w.heap.size]? = some (.cells (mkFr 0 0 ⟨#[]⟩ false).cells 43 (0, 0)) ∧ wr.heap.size = w.heap.size + 1) (fun i _ => t - (intOf i).toNat)
  case atStart => exact ⟨f, by omega, hft, rfl, by rw [Nat.sub_self]; exact HR0.out, HC0.out, HQ0.out, HZ0.out⟩
  case round =>
    obtain ⟨k, hk1, hk2, rfl, R, hC, hQ, hZ⟩ := hrel
    by_cases hlt : k < t
    · obtain ⟨g, cpp, e, hc1, hc2, hcell, hfr⟩ := own_cells R.rs (by show 0 < (setTo B.st 1 f (k - f)).length; rw [setTo_length]; omega)
      simp only [Value.slice.injEq] at e
      obtain ⟨rfl, _, rfl⟩ := e
      have hkl : k < (setTo B.st 1 f (k - f)).length := by rw [setTo_length]; omega
      have e1 := hcell k hkl
      unfold maxLen at hc2
      have N := Lib.hid (R.setState k hkl 1)
      obtain ⟨c0, c1, c2, c3, c4, c5, c6, fr⟩ := R.facts
      have hgl := HLT.out g rfl
      have HS : Hid ((wr.setCell ⟨g, k, none⟩ (.int .u8 1)).heap[w.heap.size]? = some (.cells (mkFr 0 0 ⟨#[]⟩ false).cells 43 (0, 0))) := Lib.hid ((heap_setCell_other wr _ _ _ (by show w.heap.size ≠ g; omega)).trans hQ)
      have hst : (setTo B.st 1 f (k - f)).set k 1 = setTo B.st 1 f (k + 1 - f) := by
        rw [show k + 1 - f = (k - f) + 1 from by omega, setTo, show f + (k - f) = k from by omega]
      rw [hst] at N
      clear hst c0 c1 c2 c4 c5 c6 hcell
      go_wp2
      go_roundw
      case rel => exact ⟨k + 1, by omega, by omega, by simp, N.out.1, hC.trans1 N.out.2, HS.out, by simpa using hZ⟩
      case measure => simp [intOf]; omega
    · obtain rfl : k = t := by omega
      obtain ⟨c0, c1, c2, c3, c4, c5, c6, fr⟩ := R.facts
      obtain ⟨S, hS⟩ : ∃ S, strOfNums ((B.data.drop f).take (k - f)) = S := ⟨_, rfl⟩
      have hwh := R.rd
      have hcase : (B.data.length = 0 ∧ a1 = none ∧ capd = 0) ∨ (∃ g, a1 = some ⟨g, 0, none⟩ ∧ B.data.length ≤ capd ∧ capd ≤ 9223372036854775807 ∧ g < wr.heap.size ∧ (∀ j, j < B.data.length → wr.cell? ⟨g, j, none⟩ = some (.int .u8 (B.data[j]?.getD 0)))) := by
        rcases hwh.2 with ⟨e, e2⟩ | ⟨g, cap, cur, e, hb, hg, hn, hc, hs, ht⟩
        · simp only [Value.slice.injEq] at e
          exact .inl ⟨e2, e.1, e.2.2⟩
        · simp only [Value.slice.injEq] at e
          obtain ⟨rfl, _, rfl⟩ := e
          refine .inr ⟨g, rfl, hn, by unfold maxLen at hc; omega, heap_lt hg, fun j hj => ?_⟩
          have : (cur.toList.take (B.data.length * 1))[j]? = some (.int .u8 (B.data[j]?.getD 0)) := by rw [ht]; simp [hj]
          rw [List.getElem?_take_of_lt (by omega)] at this
          simp only [World.cell?, hg]
          simpa using this
      rcases hcase with ⟨hd0, _, _⟩ | ⟨g, rfl, hc1, hc2, hgl, hcell⟩
      · omega
      have hfk : ¬ f = k := by omega
      have hdc : ∀ j, j < k - f → wr.cell? ⟨g, f + j, none⟩ = some (.int .u8 (((B.data.drop f).take (k - f)).getD j 0)) := fun j hj => by
        rw [hcell (f + j) (by omega)]
        simp [List.getD, List.getElem?_take_of_lt hj]
      have hpl : ((B.data.drop f).take (k - f)).length = k - f := by simp; omega
      have HCV : Hid (∀ w' : World, (∀ j, j < wr.heap.size → w'.heap[j]? = wr.heap[j]?) → (convert 59 9 (.slice (some ⟨g, f, none⟩) (k - f) (k - f))).run Tryd.prog w' = .ok (.string S) w') := Lib.hid (fun w' hw => by rw [← hS]; exact run_convert_bytes_arg w' 59 5 Tryd.underlying59 Tryd.underlying5 g f (k - f) (k - f) _ hpl (fun j hj => by rw [← hdc j hj]; unfold World.cell?; rw [hw g hgl]) 9 Tryd.underlying9)
      clear hdc hpl hcell hwh hf9
      have hw1 : IntKind.i64.wrap (B.base + (f : Int)) = (B.base + (f : Int)) := IntWalk.i64_in _ (by omega)
      have hw2 : IntKind.i64.wrap (B.base + (k : Int)) = (B.base + (k : Int)) := IntWalk.i64_in _ (by omega)
      obtain ⟨sent', hse⟩ : ∃ x, (if B.sent < (B.base + (k : Int)) then (B.base + (k : Int)) else B.sent) = x := ⟨_, rfl⟩
      have HSB : Hid (sentUp B k = sent') := Lib.hid ( hse)
      go_wp2
      have hc1' := HCV.out wr (fun _ _ => rfl)
      have hbl := heap_lt R.obj
      go_region_held3 (fun w' => w'.cell? ⟨b, 1, none⟩ = some (.int .i64 B.base) ∧ (convert 59 9 (.slice (some ⟨g, f, none⟩) (k - f) (k - f))).run Tryd.prog w' = .ok (.string S) w') (first | exact ⟨c1, hc1'⟩ | exact ⟨c1, HCV.out _ (fun _ _ => rfl)⟩ | exact ⟨(((Below.refl _ wr).alloc (Nat.le_refl _) _).cell (p := ⟨b, 1, none⟩) hbl).trans c1, HCV.out _ (fun j hj => Below.heap_alloc _ _ _ hj)⟩) ((fail))
      have HB2 : Hid (Below wr.heap.size wr (wr.alloc (.cells (mkFr 8 (B.base + (f : Int)) S false).cells 43)).drew) := Lib.hid (((Below.refl _ wr).alloc (Nat.le_refl _) _).drew)
      have R2 := Lib.hid (R.below HB2.out)
      have Q2 : Hid ((wr.alloc (.cells (mkFr 8 (B.base + (f : Int)) S false).cells 43)).drew.heap[w.heap.size + 1]? = some (.cells (mkFr 8 (B.base + (f : Int)) S false).cells 43 (0, 0))) := Lib.hid (by rw [← hZ]; exact heap_alloc_new wr _)
      have Q1 : Hid ((wr.alloc (.cells (mkFr 8 (B.base + (f : Int)) S false).cells 43)).drew.heap[w.heap.size]? = some (.cells (mkFr 0 0 ⟨#[]⟩ false).cells 43 (0, 0))) := Lib.hid (heap_below HB2.out hQ)
      have C2 := Lib.hid (hC.trans1 (Chg.below HB2.out))
      change Exit.then _ _ _ _ (wr.alloc (.cells (mkFr 8 (B.base + (f : Int)) S false).cells 43)).drew
      clear HB2 hQ hC hZ R c0 c1 c2 c3 c4 c5 c6 fr hc1' HCV hbl HQ0 HC0 HZ0 HR0
      generalize (wr.alloc (.cells (mkFr 8 (B.base + (f : Int)) S false).cells 43)).drew = W2 at *
      obtain ⟨c0, c1, c2, c3, c4, c5, c6, fr⟩ := R2.out.facts
      have R3 := Lib.hid ((R2.out.set 4 (.int .i64 sent') (B' := { B with st := setTo B.st 1 f (k - f), sent := sent' }) rfl rfl rfl).drew)
      have C3 := Lib.hid ((C2.out.set b 4 (.int .i64 sent') R2.out.fb).drew)
      have T9 : Hid ((W2.setCell ⟨b, 4, none⟩ (.int .i64 sent')).drew.heap[w.heap.size + 1]? = some (.cells (mkFr 8 (B.base + (f : Int)) S false).cells 43 (0, 0))) := Lib.hid ((heap_setCell_other W2 _ _ _ (show w.heap.size + 1 ≠ b by omega)).trans Q2.out)
      have T6 : Hid ((W2.setCell ⟨b, 4, none⟩ (.int .i64 sent')).drew.heap[w.heap.size]? = some (.cells (mkFr 0 0 ⟨#[]⟩ false).cells 43 (0, 0))) := Lib.hid ((heap_setCell_other W2 _ _ _ (show w.heap.size ≠ b by omega)).trans Q1.out)
      have OP := Lib.hid (open_any b F _ _ ⟨_, _, R3.out⟩)
      have hcase2 : (k = B.data.length ∧ openF B = true) ∨ ((k = B.data.length ∧ openF B = false) ∨ ¬ k = B.data.length) := by
        by_cases h1 : k = B.data.length
        · cases h2 : openF B
          · exact .inr (.inl ⟨h1, rfl⟩)
          · exact .inl ⟨h1, rfl⟩
        · exact .inr (.inr h1)
      have HS2 := Lib.hid hS
      rw [show openF { B with st := setTo B.st 1 f (k - f), sent := sent' } = openF B from rfl] at OP
      rcases hcase2 with ⟨hkd, hop⟩ | hno
      · have HF : Hid (finF B k = true) := Lib.hid (by unfold finF; rw [hop, hkd]; simp)
        rw [hop] at OP
        have hse2 : (if B.sent < B.base + (B.data.length : Int) then B.base + (B.data.length : Int) else B.sent) = sent' := by rw [← hkd]; exact hse
        have hw3 : IntKind.i64.wrap (B.base + (B.data.length : Int)) = B.base + (B.data.length : Int) := by rw [← hkd]; exact hw2
        have hne1 : ¬ (w.heap.size + 1 = b) := by omega
        have hne2 : ¬ (b = w.heap.size + 1) := by omega
        have hne3 : ¬ (w.heap.size = b) := by omega
        have FIN : Hid (∀ W3 : World, Rep W3 b F { B with st := setTo B.st 1 f (k - f), sent := sent' } _ _ → Chg F w W3 → W3.heap[w.heap.size + 1]? = some (.cells (mkFr 8 (B.base + (f : Int)) S false).cells 43 (0, 0)) → W3.heap[w.heap.size]? = some (.cells (mkFr 0 0 ⟨#[]⟩ false).cells 43 (0, 0)) → ((W3.setCell ⟨b, 6, none⟩ (.int .u8 1)).setCell ⟨w.heap.size + 1, 4, none⟩ (.bool true)).heap[w.heap.size + 1]? = some (.cells (mkFr 8 (B.base + (f : Int)) S true).cells 43 (0, 0)) ∧ ((W3.setCell ⟨b, 6, none⟩ (.int .u8 1)).setCell ⟨w.heap.size + 1, 4, none⟩ (.bool true)).heap[w.heap.size]? = some (.cells (mkFr 0 0 ⟨#[]⟩ false).cells 43 (0, 0)) ∧ Chg F w ((W3.setCell ⟨b, 6, none⟩ (.int .u8 1)).setCell ⟨w.heap.size + 1, 4, none⟩ (.bool true)) ∧ Rep ((W3.setCell ⟨b, 6, none⟩ (.int .u8 1)).setCell ⟨w.heap.size + 1, 4, none⟩ (.bool true)) b F { B with st := setTo B.st 1 f (k - f), sent := sent', ed := 1 } _ _) := Lib.hid (fun W3 r c t9 t6 => ⟨heap_set (.bool true) ((heap_setCell_other _ _ _ _ hne1).trans t9), (heap_setCell_other _ _ _ _ (by show w.heap.size ≠ w.heap.size + 1; omega)).trans ((heap_setCell_other _ _ _ _ hne3).trans t6), (c.set b 6 _ r.fb).setFar (w.heap.size + 1) 4 _ (by omega), (r.set 6 (.int .u8 1) (B' := { B with st := setTo B.st 1 f (k - f), sent := sent', ed := 1 }) rfl rfl rfl).far (w' := ((W3.setCell ⟨b, 6, none⟩ (.int .u8 1)).setCell ⟨w.heap.size + 1, 4, none⟩ (.bool true))) (fun j hj => heap_setCell_other _ _ _ _ (by have := HFAR.out j hj; show j ≠ w.heap.size + 1; omega))⟩)
        go_wp2
        go_still_tail 14, (by kernel_rfl)
        go_wp2_with (first | (go_at_call 31; refine OP.out.mono ?_; rintro e w1 ⟨rfl, rfl⟩; have FI := Lib.hid (FIN.out _ R3.out C3.out T9.out T6.out); clear OP R2 C2 Q1 Q2; generalize (W2.setCell ⟨b, 4, none⟩ (.int .i64 sent')).drew = W3 at *; clear c0 c1 c2 c3 c4 c5 c6 fr; have d6 := R3.out.facts.c6; have dfr := R3.out.facts.fr; have e4 := (cell_whole T9.out 4).trans (rfl : _ = some (Value.bool false)); have f9 := frozen_whole T9.out) | (refine wpList_load_row rfl 43 _ rfl (w.heap.size + 1) rfl 43 _ (0, 0) _ FI.out.1 Tryd.underlying43 rfl (size43 _) ?_) | (refine wpList_store_row rfl 43 _ _ rfl w.heap.size _ rfl rfl 43 _ FI.out.2.1 (size43 _) rfl (one35 _ _ _ _) ?_))
        refine bodyPost_ret (v := (mkFr 8 (B.base + (f : Int)) S true).val) (results_cell_row rfl _ _ w.heap.size 43 _ (0, 0) _ rfl (setRow_heap _ _ _ _ 43 _ FI.out.2.1) Tryd.underlying43 rfl (size43 _)) rfl ⟨?_, FI.out.2.2.1.setRow _ _ (Nat.le_refl _), ?_⟩
        · unfold frameR; rw [HS2.out, HF.out]
        · rw [show frameB B f k = { B with st := setTo B.st 1 f (k - f), sent := sent', ed := 1 } from by unfold frameB; rw [HSB.out, HF.out]; rfl]
          exact ⟨_, _, (FI.out.2.2.2.far (fun j hj => setRow_other _ _ j _ (by have := HFAR.out j hj; omega))).ext (fun j hj => .inl hj)⟩
      · have HF : Hid (finF B k = false) := Lib.hid (by unfold finF; rcases hno with ⟨_, h⟩ | h; rw [h]; simp; simp [h])
        rcases hno with ⟨hkd, hop⟩ | hkd
        · rw [hop] at OP
          have hse2 : (if B.sent < B.base + (B.data.length : Int) then B.base + (B.data.length : Int) else B.sent) = sent' := by rw [← hkd]; exact hse
          have hw3 : IntKind.i64.wrap (B.base + (B.data.length : Int)) = B.base + (B.data.length : Int) := by rw [← hkd]; exact hw2
          go_wp2
          go_still_tail 14, (by kernel_rfl)
          go_wp2_with (first | (go_at_call 31; refine OP.out.mono ?_; rintro e w1 ⟨rfl, rfl⟩) | (refine wpList_load_row rfl 43 _ rfl (w.heap.size + 1) rfl 43 _ (0, 0) _ T9.out Tryd.underlying43 rfl (size43 _) ?_) | (refine wpList_store_row rfl 43 _ _ rfl w.heap.size _ rfl rfl 43 _ T6.out (size43 _) rfl (one35 _ _ _ _) ?_))
          refine bodyPost_ret (v := (mkFr 8 (B.base + (f : Int)) S false).val) (results_cell_row rfl _ _ w.heap.size 43 _ (0, 0) _ rfl (setRow_heap _ _ _ _ 43 _ T6.out) Tryd.underlying43 rfl (size43 _)) rfl ⟨?_, C3.out.setRow _ _ (Nat.le_refl _), ?_⟩
          · unfold frameR; rw [HS2.out, HF.out]
          · rw [show frameB B f k = { B with st := setTo B.st 1 f (k - f), sent := sent' } from by unfold frameB; rw [HSB.out, HF.out]; rfl]
            exact ⟨_, _, (R3.out.far (fun j hj => setRow_other _ _ j _ (by have := HFAR.out j hj; omega))).ext (fun j hj => .inl hj)⟩
        · have hkd2 : ¬ ((k : Nat) : Int) = (B.data.length : Int) := by omega
          go_wp2
          go_still_tail 14, (by kernel_rfl)
          go_wp2_with (first | (go_at_call 31; refine OP.out.mono ?_; rintro e w1 ⟨rfl, rfl⟩) | (refine wpList_load_row rfl 43 _ rfl (w.heap.size + 1) rfl 43 _ (0, 0) _ T9.out Tryd.underlying43 rfl (size43 _) ?_) | (refine wpList_store_row rfl 43 _ _ rfl w.heap.size _ rfl rfl 43 _ T6.out (size43 _) rfl (one35 _ _ _ _) ?_))
          refine bodyPost_ret (v := (mkFr 8 (B.base + (f : Int)) S false).val) (results_cell_row rfl _ _ w.heap.size 43 _ (0, 0) _ rfl (setRow_heap _ _ _ _ 43 _ T6.out) Tryd.underlying43 rfl (size43 _)) rfl ⟨?_, C3.out.setRow _ _ (Nat.le_refl _), ?_⟩
          · unfold frameR; rw [HS2.out, HF.out]
          · rw [show frameB B f k = { B with st := setTo B.st 1 f (k - f), sent := sent' } from by unfold frameB; rw [HSB.out, HF.out]; rfl]
            exact ⟨_, _, (R3.out.far (fun j hj => setRow_other _ _ j _ (by have := HFAR.out j hj; omega))).ext (fun j hj => .inl hj)⟩
end Go.Proofs.YtpfkeohaaeiaaaaDoor
namespace Go.Proofs.YtpfkeohaaeiaaaaDoor
open Go.RowKit
set_option maxRecDepth 100000
set_option maxHeartbeats 8000000 in
theorem frame_empty (b : Nat) (F : Nat → Prop) (B : Bf) (f : Nat) (w : World) (g capd : Nat) (vs : Value) (h : Rep w b F B (.slice (some ⟨g, 0, none⟩) B.data.length capd) vs) (hg : Good B) (ht : f ≤ B.data.length) :
    Calls Tryd.prog 29 #[.pointer (some ⟨b, 0, none⟩), .int .i64 f, .int .i64 f] w fun e w' => e = .returned (frameR B f f).val ∧ Chg F w w' ∧ Inv w' b (Ext F w w') (frameB B f f) := by
  obtain ⟨l1, l2, b0, b1, len, cp, s0, s1⟩ := hg
  have hn9 : B.st.length ≤ 8192 := by omega
  have ht2 : f ≤ B.st.length := by omega
  obtain ⟨a2, caps, rfl, hcaps⟩ := own_form h.rs
  have HR0 := Lib.hid (h.below (show Below w.heap.size w (w.alloc (.cells (mkFr 0 0 ⟨#[]⟩ false).cells 43)) from (Below.refl _ w).alloc (Nat.le_refl _) _))
  go_enter Tryd.func29, Tryd.ntmps29
  go_wp2
  have HQ0 : Hid ((w.alloc (.cells (mkFr 0 0 ⟨#[]⟩ false).cells 43)).heap[w.heap.size]? = some (.cells (mkFr 0 0 ⟨#[]⟩ false).cells 43 (0, 0))) := Lib.hid (heap_alloc_new w _)
  have HC0 : Hid (Chg F w (w.alloc (.cells (mkFr 0 0 ⟨#[]⟩ false).cells 43))) := Lib.hid (Chg.below ((Below.refl _ w).alloc (Nat.le_refl _) _))
  have HZ0 : Hid ((w.alloc (.cells (mkFr 0 0 ⟨#[]⟩ false).cells 43)).heap.size = w.heap.size + 1) := Lib.hid (by simp)
  have HLT := Lib.hid (own_lt h.rs)
  have HBL := Lib.hid (heap_lt h.obj)
  have HDL := Lib.hid (own_lt h.rd)
  change Code.wp _ _ _ _ (w.alloc (.cells (mkFr 0 0 ⟨#[]⟩ false).cells 43))
  generalize w.alloc (.cells (mkFr 0 0 ⟨#[]⟩ false).cells 43) = W0 at *
  have HFAR : Hid (∀ k, (k = b ∨ (Value.slice (some ⟨g, 0, none⟩) B.data.length capd).ownBlock = some k ∨ (Value.slice a2 B.st.length caps).ownBlock = some k) → k < w.heap.size) := Lib.hid (fun k hk => by rcases hk with rfl | hk | hk; exact HBL.out; exact HDL.out k hk; exact HLT.out k hk)
  have hbl0 : b < w.heap.size := HBL.out
  clear h
  go_loopw [7] (fun i wr => ∃ (k : Nat), f ≤ k ∧ k ≤ f ∧ i = .int .i64 k ∧ Rep wr b F { B with st := setTo B.st 1 f (k - f) } (.slice (some ⟨g, 0, none⟩) B.data.length capd) (.slice a2 B.st.length caps) ∧ Chg F w wr ∧ wr.heap[w.heap.size]? = some (.cells (mkFr 0 0 ⟨#[]⟩ false).cells 43 (0, 0)) ∧ wr.heap.size = w.heap.size + 1) (fun i _ => f - (intOf i).toNat)
  case atStart => exact ⟨f, by omega, by omega, rfl, by rw [Nat.sub_self]; exact HR0.out, HC0.out, HQ0.out, HZ0.out⟩
  case round =>
    obtain ⟨k, hk1, hk2, rfl, R, hC, hQ, hZ⟩ := hrel
    have hkf : k = f := by omega
    subst hkf
    obtain ⟨c0, c1, c2, c3, c4, c5, c6, fr⟩ := R.facts
    obtain ⟨S, hS⟩ : ∃ S, strOfNums ((B.data.drop k).take (k - k)) = S := ⟨_, rfl⟩
    obtain ⟨hc1, hc2⟩ : B.data.length ≤ capd ∧ capd ≤ 9223372036854775807 := by
      rcases R.rd.2 with ⟨e, e2⟩ | ⟨g, cap, cur, e, hb, hg, hn, hc, hs, ht⟩
      · cases e
      · simp only [Value.slice.injEq] at e
        obtain ⟨_, _, rfl⟩ := e
        exact ⟨hn, hc⟩
    have HCV : Hid (∀ w' : World, (∀ j, j < wr.heap.size → w'.heap[j]? = wr.heap[j]?) → (convert 59 9 (.slice (some ⟨g, 0, none⟩) 0 0)).run Tryd.prog w' = .ok (.string S) w') := Lib.hid (fun w' hw => by rw [← hS, Nat.sub_self, List.take_zero]; exact run_convert_bytes_arg w' 59 5 Tryd.underlying59 Tryd.underlying5 g 0 0 0 [] rfl (fun j hj => by omega) 9 Tryd.underlying9)
    have hw1 : IntKind.i64.wrap (B.base + (k : Int)) = (B.base + (k : Int)) := IntWalk.i64_in _ (by omega)
    have hw2 : IntKind.i64.wrap (B.base + (k : Int)) = (B.base + (k : Int)) := IntWalk.i64_in _ (by omega)
    obtain ⟨sent', hse⟩ : ∃ x, (if B.sent < (B.base + (k : Int)) then (B.base + (k : Int)) else B.sent) = x := ⟨_, rfl⟩
    have HSB : Hid (sentUp B k = sent') := Lib.hid ( hse)
    go_wp2
    have hc1' := HCV.out wr (fun _ _ => rfl)
    have hbl := heap_lt R.obj
    go_region_held3 (fun w' => w'.cell? ⟨b, 1, none⟩ = some (.int .i64 B.base) ∧ (convert 59 9 (.slice (some ⟨g, 0, none⟩) 0 0)).run Tryd.prog w' = .ok (.string S) w') (first | exact ⟨c1, hc1'⟩ | exact ⟨c1, HCV.out _ (fun _ _ => rfl)⟩ | exact ⟨(((Below.refl _ wr).alloc (Nat.le_refl _) _).cell (p := ⟨b, 1, none⟩) hbl).trans c1, HCV.out _ (fun j hj => Below.heap_alloc _ _ _ hj)⟩) ((fail))
    have HB2 : Hid (Below wr.heap.size wr (wr.alloc (.cells (mkFr 8 (B.base + (k : Int)) S false).cells 43)).drew) := Lib.hid (((Below.refl _ wr).alloc (Nat.le_refl _) _).drew)
    have R2 := Lib.hid (R.below HB2.out)
    have Q2 : Hid ((wr.alloc (.cells (mkFr 8 (B.base + (k : Int)) S false).cells 43)).drew.heap[w.heap.size + 1]? = some (.cells (mkFr 8 (B.base + (k : Int)) S false).cells 43 (0, 0))) := Lib.hid (by rw [← hZ]; exact heap_alloc_new wr _)
    have Q1 : Hid ((wr.alloc (.cells (mkFr 8 (B.base + (k : Int)) S false).cells 43)).drew.heap[w.heap.size]? = some (.cells (mkFr 0 0 ⟨#[]⟩ false).cells 43 (0, 0))) := Lib.hid (heap_below HB2.out hQ)
    have C2 := Lib.hid (hC.trans1 (Chg.below HB2.out))
    change Exit.then _ _ _ _ (wr.alloc (.cells (mkFr 8 (B.base + (k : Int)) S false).cells 43)).drew
    clear HB2 hQ hC hZ R c0 c1 c2 c3 c4 c5 c6 fr hc1' HCV hbl HQ0 HC0 HZ0 HR0
    generalize (wr.alloc (.cells (mkFr 8 (B.base + (k : Int)) S false).cells 43)).drew = W2 at *
    obtain ⟨c0, c1, c2, c3, c4, c5, c6, fr⟩ := R2.out.facts
    have R3 := Lib.hid ((R2.out.set 4 (.int .i64 sent') (B' := { B with st := setTo B.st 1 k (k - k), sent := sent' }) rfl rfl rfl).drew)
    have C3 := Lib.hid ((C2.out.set b 4 (.int .i64 sent') R2.out.fb).drew)
    have T9 : Hid ((W2.setCell ⟨b, 4, none⟩ (.int .i64 sent')).drew.heap[w.heap.size + 1]? = some (.cells (mkFr 8 (B.base + (k : Int)) S false).cells 43 (0, 0))) := Lib.hid ((heap_setCell_other W2 _ _ _ (show w.heap.size + 1 ≠ b by omega)).trans Q2.out)
    have T6 : Hid ((W2.setCell ⟨b, 4, none⟩ (.int .i64 sent')).drew.heap[w.heap.size]? = some (.cells (mkFr 0 0 ⟨#[]⟩ false).cells 43 (0, 0))) := Lib.hid ((heap_setCell_other W2 _ _ _ (show w.heap.size ≠ b by omega)).trans Q1.out)
    have OP := Lib.hid (open_any b F _ _ ⟨_, _, R3.out⟩)
    have hcase2 : (k = B.data.length ∧ openF B = true) ∨ ((k = B.data.length ∧ openF B = false) ∨ ¬ k = B.data.length) := by
      by_cases h1 : k = B.data.length
      · cases h2 : openF B
        · exact .inr (.inl ⟨h1, rfl⟩)
        · exact .inl ⟨h1, rfl⟩
      · exact .inr (.inr h1)
    have HS2 := Lib.hid hS
    rw [show openF { B with st := setTo B.st 1 k (k - k), sent := sent' } = openF B from rfl] at OP
    rcases hcase2 with ⟨hkd, hop⟩ | hno
    · have HF : Hid (finF B k = true) := Lib.hid (by unfold finF; rw [hop, hkd]; simp)
      rw [hop] at OP
      have hse2 : (if B.sent < B.base + (B.data.length : Int) then B.base + (B.data.length : Int) else B.sent) = sent' := by rw [← hkd]; exact hse
      have hw3 : IntKind.i64.wrap (B.base + (B.data.length : Int)) = B.base + (B.data.length : Int) := by rw [← hkd]; exact hw2
      have hne1 : ¬ (w.heap.size + 1 = b) := by omega
      have hne2 : ¬ (b = w.heap.size + 1) := by omega
      have hne3 : ¬ (w.heap.size = b) := by omega
      have FIN : Hid (∀ W3 : World, Rep W3 b F { B with st := setTo B.st 1 k (k - k), sent := sent' } _ _ → Chg F w W3 → W3.heap[w.heap.size + 1]? = some (.cells (mkFr 8 (B.base + (k : Int)) S false).cells 43 (0, 0)) → W3.heap[w.heap.size]? = some (.cells (mkFr 0 0 ⟨#[]⟩ false).cells 43 (0, 0)) → ((W3.setCell ⟨b, 6, none⟩ (.int .u8 1)).setCell ⟨w.heap.size + 1, 4, none⟩ (.bool true)).heap[w.heap.size + 1]? = some (.cells (mkFr 8 (B.base + (k : Int)) S true).cells 43 (0, 0)) ∧ ((W3.setCell ⟨b, 6, none⟩ (.int .u8 1)).setCell ⟨w.heap.size + 1, 4, none⟩ (.bool true)).heap[w.heap.size]? = some (.cells (mkFr 0 0 ⟨#[]⟩ false).cells 43 (0, 0)) ∧ Chg F w ((W3.setCell ⟨b, 6, none⟩ (.int .u8 1)).setCell ⟨w.heap.size + 1, 4, none⟩ (.bool true)) ∧ Rep ((W3.setCell ⟨b, 6, none⟩ (.int .u8 1)).setCell ⟨w.heap.size + 1, 4, none⟩ (.bool true)) b F { B with st := setTo B.st 1 k (k - k), sent := sent', ed := 1 } _ _) := Lib.hid (fun W3 r c t9 t6 => ⟨heap_set (.bool true) ((heap_setCell_other _ _ _ _ hne1).trans t9), (heap_setCell_other _ _ _ _ (by show w.heap.size ≠ w.heap.size + 1; omega)).trans ((heap_setCell_other _ _ _ _ hne3).trans t6), (c.set b 6 _ r.fb).setFar (w.heap.size + 1) 4 _ (by omega), (r.set 6 (.int .u8 1) (B' := { B with st := setTo B.st 1 k (k - k), sent := sent', ed := 1 }) rfl rfl rfl).far (w' := ((W3.setCell ⟨b, 6, none⟩ (.int .u8 1)).setCell ⟨w.heap.size + 1, 4, none⟩ (.bool true))) (fun j hj => heap_setCell_other _ _ _ _ (by have := HFAR.out j hj; show j ≠ w.heap.size + 1; omega))⟩)
      go_wp2
      go_still_tail 14, (by kernel_rfl)
      go_wp2_with (first | (go_at_call 31; refine OP.out.mono ?_; rintro e w1 ⟨rfl, rfl⟩; have FI := Lib.hid (FIN.out _ R3.out C3.out T9.out T6.out); clear OP R2 C2 Q1 Q2; generalize (W2.setCell ⟨b, 4, none⟩ (.int .i64 sent')).drew = W3 at *; clear c0 c1 c2 c3 c4 c5 c6 fr; have d6 := R3.out.facts.c6; have dfr := R3.out.facts.fr; have e4 := (cell_whole T9.out 4).trans (rfl : _ = some (Value.bool false)); have f9 := frozen_whole T9.out) | (refine wpList_load_row rfl 43 _ rfl (w.heap.size + 1) rfl 43 _ (0, 0) _ FI.out.1 Tryd.underlying43 rfl (size43 _) ?_) | (refine wpList_store_row rfl 43 _ _ rfl w.heap.size _ rfl rfl 43 _ FI.out.2.1 (size43 _) rfl (one35 _ _ _ _) ?_))
      refine bodyPost_ret (v := (mkFr 8 (B.base + (k : Int)) S true).val) (results_cell_row rfl _ _ w.heap.size 43 _ (0, 0) _ rfl (setRow_heap _ _ _ _ 43 _ FI.out.2.1) Tryd.underlying43 rfl (size43 _)) rfl ⟨?_, FI.out.2.2.1.setRow _ _ (Nat.le_refl _), ?_⟩
      · unfold frameR; rw [HS2.out, HF.out]
      · rw [show frameB B k k = { B with st := setTo B.st 1 k (k - k), sent := sent', ed := 1 } from by unfold frameB; rw [HSB.out, HF.out]; rfl]
        exact ⟨_, _, (FI.out.2.2.2.far (fun j hj => setRow_other _ _ j _ (by have := HFAR.out j hj; omega))).ext (fun j hj => .inl hj)⟩
    · have HF : Hid (finF B k = false) := Lib.hid (by unfold finF; rcases hno with ⟨_, h⟩ | h; rw [h]; simp; simp [h])
      rcases hno with ⟨hkd, hop⟩ | hkd
      · rw [hop] at OP
        have hse2 : (if B.sent < B.base + (B.data.length : Int) then B.base + (B.data.length : Int) else B.sent) = sent' := by rw [← hkd]; exact hse
        have hw3 : IntKind.i64.wrap (B.base + (B.data.length : Int)) = B.base + (B.data.length : Int) := by rw [← hkd]; exact hw2
        go_wp2
        go_still_tail 14, (by kernel_rfl)
        go_wp2_with (first | (go_at_call 31; refine OP.out.mono ?_; rintro e w1 ⟨rfl, rfl⟩) | (refine wpList_load_row rfl 43 _ rfl (w.heap.size + 1) rfl 43 _ (0, 0) _ T9.out Tryd.underlying43 rfl (size43 _) ?_) | (refine wpList_store_row rfl 43 _ _ rfl w.heap.size _ rfl rfl 43 _ T6.out (size43 _) rfl (one35 _ _ _ _) ?_))
        refine bodyPost_ret (v := (mkFr 8 (B.base + (k : Int)) S false).val) (results_cell_row rfl _ _ w.heap.size 43 _ (0, 0) _ rfl (setRow_heap _ _ _ _ 43 _ T6.out) Tryd.underlying43 rfl (size43 _)) rfl ⟨?_, C3.out.setRow _ _ (Nat.le_refl _), ?_⟩
        · unfold frameR; rw [HS2.out, HF.out]
        · rw [show frameB B k k = { B with st := setTo B.st 1 k (k - k), sent := sent' } from by unfold frameB; rw [HSB.out, HF.out]; rfl]
          exact ⟨_, _, (R3.out.far (fun j hj => setRow_other _ _ j _ (by have := HFAR.out j hj; omega))).ext (fun j hj => .inl hj)⟩
      · have hkd2 : ¬ ((k : Nat) : Int) = (B.data.length : Int) := by omega
        go_wp2
        go_still_tail 14, (by kernel_rfl)
        go_wp2_with (first | (go_at_call 31; refine OP.out.mono ?_; rintro e w1 ⟨rfl, rfl⟩) | (refine wpList_load_row rfl 43 _ rfl (w.heap.size + 1) rfl 43 _ (0, 0) _ T9.out Tryd.underlying43 rfl (size43 _) ?_) | (refine wpList_store_row rfl 43 _ _ rfl w.heap.size _ rfl rfl 43 _ T6.out (size43 _) rfl (one35 _ _ _ _) ?_))
        refine bodyPost_ret (v := (mkFr 8 (B.base + (k : Int)) S false).val) (results_cell_row rfl _ _ w.heap.size 43 _ (0, 0) _ rfl (setRow_heap _ _ _ _ 43 _ T6.out) Tryd.underlying43 rfl (size43 _)) rfl ⟨?_, C3.out.setRow _ _ (Nat.le_refl _), ?_⟩
        · unfold frameR; rw [HS2.out, HF.out]
        · rw [show frameB B k k = { B with st := setTo B.st 1 k (k - k), sent := sent' } from by unfold frameB; rw [HSB.out, HF.out]; rfl]
          exact ⟨_, _, (R3.out.far (fun j hj => setRow_other _ _ j _ (by have := HFAR.out j hj; omega))).ext (fun j hj => .inl hj)⟩
end Go.Proofs.YtpfkeohaaeiaaaaDoor
namespace Go.Proofs.YtpfkeohaaeiaaaaDoor
open Go.RowKit
set_option maxRecDepth 100000
set_option maxHeartbeats 8000000 in
theorem frame_nil (b : Nat) (F : Nat → Prop) (B : Bf) (w : World) (vs : Value) (h : Rep w b F B (.slice none 0 0) vs) (hg : Good B) :
    Calls Tryd.prog 29 #[.pointer (some ⟨b, 0, none⟩), .int .i64 0, .int .i64 0] w fun e w' => e = .returned (frameR B 0 0).val ∧ Chg F w w' ∧ Inv w' b (Ext F w w') (frameB B 0 0) := by
  obtain ⟨l1, l2, b0, b1, len, cp, s0, s1⟩ := hg
  have hn9 : B.st.length ≤ 8192 := by omega
  obtain ⟨a2, caps, rfl, hcaps⟩ := own_form h.rs
  have HD0 : Hid (B.data.length = 0) := Lib.hid (by rcases h.rd.2 with ⟨e, e2⟩ | ⟨g, cap, cur, e, _⟩; exact e2; cases e)
  have HR0 := Lib.hid (h.below (show Below w.heap.size w (w.alloc (.cells (mkFr 0 0 ⟨#[]⟩ false).cells 43)) from (Below.refl _ w).alloc (Nat.le_refl _) _))
  go_enter Tryd.func29, Tryd.ntmps29
  go_wp2
  have HQ0 : Hid ((w.alloc (.cells (mkFr 0 0 ⟨#[]⟩ false).cells 43)).heap[w.heap.size]? = some (.cells (mkFr 0 0 ⟨#[]⟩ false).cells 43 (0, 0))) := Lib.hid (heap_alloc_new w _)
  have HC0 : Hid (Chg F w (w.alloc (.cells (mkFr 0 0 ⟨#[]⟩ false).cells 43))) := Lib.hid (Chg.below ((Below.refl _ w).alloc (Nat.le_refl _) _))
  have HZ0 : Hid ((w.alloc (.cells (mkFr 0 0 ⟨#[]⟩ false).cells 43)).heap.size = w.heap.size + 1) := Lib.hid (by simp)
  have HLT := Lib.hid (own_lt h.rs)
  have HBL := Lib.hid (heap_lt h.obj)
  have HDL := Lib.hid (own_lt h.rd)
  change Code.wp _ _ _ _ (w.alloc (.cells (mkFr 0 0 ⟨#[]⟩ false).cells 43))
  generalize w.alloc (.cells (mkFr 0 0 ⟨#[]⟩ false).cells 43) = W0 at *
  have HFAR : Hid (∀ k, (k = b ∨ (Value.slice none 0 0).ownBlock = some k ∨ (Value.slice a2 B.st.length caps).ownBlock = some k) → k < w.heap.size) := Lib.hid (fun k hk => by rcases hk with rfl | hk | hk; exact HBL.out; exact HDL.out k hk; exact HLT.out k hk)
  have hbl0 : b < w.heap.size := HBL.out
  clear h
  go_loopw [7] (fun i wr => ∃ (k : Nat), k ≤ 0 ∧ i = .int .i64 k ∧ Rep wr b F { B with st := setTo B.st 1 0 k } (.slice none 0 0) (.slice a2 B.st.length caps) ∧ Chg F w wr ∧ wr.heap[w.heap.size]? = some (.cells (mkFr 0 0 ⟨#[]⟩ false).cells 43 (0, 0)) ∧ wr.heap.size = w.heap.size + 1) (fun i _ => 0 - (intOf i).toNat)
  case atStart => exact ⟨0, by omega, rfl, by exact HR0.out, HC0.out, HQ0.out, HZ0.out⟩
  case round =>
    obtain ⟨k, hk1, rfl, R, hC, hQ, hZ⟩ := hrel
    obtain rfl : k = 0 := by omega
    obtain ⟨c0, c1, c2, c3, c4, c5, c6, fr⟩ := R.facts
    obtain ⟨S, hS⟩ : ∃ S, strOfNums ((B.data.drop 0).take (0 - 0)) = S := ⟨_, rfl⟩
    have HCV : Hid (∀ w' : World, (∀ j, j < wr.heap.size → w'.heap[j]? = wr.heap[j]?) → (convert 59 9 (.slice none 0 0)).run Tryd.prog w' = .ok (.string S) w') := Lib.hid (fun w' hw => by rw [← hS]; exact run_convert_bytes_nil w' 59 5 Tryd.underlying59 Tryd.underlying5 0 0 9 Tryd.underlying9)
    have hw1 : IntKind.i64.wrap B.base = B.base := IntWalk.i64_in _ (by omega)
    have hw2 : IntKind.i64.wrap B.base = B.base := IntWalk.i64_in _ (by omega)
    obtain ⟨sent', hse⟩ : ∃ x, (if B.sent < B.base then B.base else B.sent) = x := ⟨_, rfl⟩
    have HSB : Hid (sentUp B 0 = sent') := Lib.hid (by unfold sentUp; simpa using hse)
    go_wp2
    have hc1' := HCV.out wr (fun _ _ => rfl)
    have hbl := heap_lt R.obj
    go_region_held3 (fun w' => w'.cell? ⟨b, 1, none⟩ = some (.int .i64 B.base) ∧ (convert 59 9 (.slice none 0 0)).run Tryd.prog w' = .ok (.string S) w') (first | exact ⟨c1, hc1'⟩ | exact ⟨c1, HCV.out _ (fun _ _ => rfl)⟩ | exact ⟨(((Below.refl _ wr).alloc (Nat.le_refl _) _).cell (p := ⟨b, 1, none⟩) hbl).trans c1, HCV.out _ (fun j hj => Below.heap_alloc _ _ _ hj)⟩) ((fail))
    have HB2 : Hid (Below wr.heap.size wr (wr.alloc (.cells (mkFr 8 B.base S false).cells 43)).drew) := Lib.hid (((Below.refl _ wr).alloc (Nat.le_refl _) _).drew)
    have R2 := Lib.hid (R.below HB2.out)
    have Q2 : Hid ((wr.alloc (.cells (mkFr 8 B.base S false).cells 43)).drew.heap[w.heap.size + 1]? = some (.cells (mkFr 8 B.base S false).cells 43 (0, 0))) := Lib.hid (by rw [← hZ]; exact heap_alloc_new wr _)
    have Q1 : Hid ((wr.alloc (.cells (mkFr 8 B.base S false).cells 43)).drew.heap[w.heap.size]? = some (.cells (mkFr 0 0 ⟨#[]⟩ false).cells 43 (0, 0))) := Lib.hid (heap_below HB2.out hQ)
    have C2 := Lib.hid (hC.trans1 (Chg.below HB2.out))
    change Exit.then _ _ _ _ (wr.alloc (.cells (mkFr 8 B.base S false).cells 43)).drew
    clear HB2 hQ hC hZ R c0 c1 c2 c3 c4 c5 c6 fr hc1' HCV hbl HQ0 HC0 HZ0 HR0
    generalize (wr.alloc (.cells (mkFr 8 B.base S false).cells 43)).drew = W2 at *
    obtain ⟨c0, c1, c2, c3, c4, c5, c6, fr⟩ := R2.out.facts
    have R3 := Lib.hid ((R2.out.set 4 (.int .i64 sent') (B' := { B with st := setTo B.st 1 0 0, sent := sent' }) rfl rfl rfl).drew)
    have C3 := Lib.hid ((C2.out.set b 4 (.int .i64 sent') R2.out.fb).drew)
    have T9 : Hid ((W2.setCell ⟨b, 4, none⟩ (.int .i64 sent')).drew.heap[w.heap.size + 1]? = some (.cells (mkFr 8 B.base S false).cells 43 (0, 0))) := Lib.hid ((heap_setCell_other W2 _ _ _ (show w.heap.size + 1 ≠ b by omega)).trans Q2.out)
    have T6 : Hid ((W2.setCell ⟨b, 4, none⟩ (.int .i64 sent')).drew.heap[w.heap.size]? = some (.cells (mkFr 0 0 ⟨#[]⟩ false).cells 43 (0, 0))) := Lib.hid ((heap_setCell_other W2 _ _ _ (show w.heap.size ≠ b by omega)).trans Q1.out)
    have OP := Lib.hid (open_any b F _ _ ⟨_, _, R3.out⟩)
    have hcase2 : (0 = B.data.length ∧ openF B = true) ∨ ((0 = B.data.length ∧ openF B = false) ∨ ¬ 0 = B.data.length) := by
      by_cases h1 : 0 = B.data.length
      · cases h2 : openF B
        · exact .inr (.inl ⟨h1, rfl⟩)
        · exact .inl ⟨h1, rfl⟩
      · exact .inr (.inr h1)
    have HS2 := Lib.hid hS
    rw [show openF { B with st := setTo B.st 1 0 0, sent := sent' } = openF B from rfl] at OP
    rcases hcase2 with ⟨hkd, hop⟩ | hno
    · have HF : Hid (finF B 0 = true) := Lib.hid (by unfold finF; rw [hop, ← hkd]; simp)
      clear hkd
      rw [hop] at OP
      have hne1 : ¬ (w.heap.size + 1 = b) := by omega
      have hne2 : ¬ (b = w.heap.size + 1) := by omega
      have hne3 : ¬ (w.heap.size = b) := by omega
      have FIN : Hid (∀ W3 : World, Rep W3 b F { B with st := setTo B.st 1 0 0, sent := sent' } _ _ → Chg F w W3 → W3.heap[w.heap.size + 1]? = some (.cells (mkFr 8 B.base S false).cells 43 (0, 0)) → W3.heap[w.heap.size]? = some (.cells (mkFr 0 0 ⟨#[]⟩ false).cells 43 (0, 0)) → ((W3.setCell ⟨b, 6, none⟩ (.int .u8 1)).setCell ⟨w.heap.size + 1, 4, none⟩ (.bool true)).heap[w.heap.size + 1]? = some (.cells (mkFr 8 B.base S true).cells 43 (0, 0)) ∧ ((W3.setCell ⟨b, 6, none⟩ (.int .u8 1)).setCell ⟨w.heap.size + 1, 4, none⟩ (.bool true)).heap[w.heap.size]? = some (.cells (mkFr 0 0 ⟨#[]⟩ false).cells 43 (0, 0)) ∧ Chg F w ((W3.setCell ⟨b, 6, none⟩ (.int .u8 1)).setCell ⟨w.heap.size + 1, 4, none⟩ (.bool true)) ∧ Rep ((W3.setCell ⟨b, 6, none⟩ (.int .u8 1)).setCell ⟨w.heap.size + 1, 4, none⟩ (.bool true)) b F { B with st := setTo B.st 1 0 0, sent := sent', ed := 1 } _ _) := Lib.hid (fun W3 r c t9 t6 => ⟨heap_set (.bool true) ((heap_setCell_other _ _ _ _ hne1).trans t9), (heap_setCell_other _ _ _ _ (by show w.heap.size ≠ w.heap.size + 1; omega)).trans ((heap_setCell_other _ _ _ _ hne3).trans t6), (c.set b 6 _ r.fb).setFar (w.heap.size + 1) 4 _ (by omega), (r.set 6 (.int .u8 1) (B' := { B with st := setTo B.st 1 0 0, sent := sent', ed := 1 }) rfl rfl rfl).far (w' := ((W3.setCell ⟨b, 6, none⟩ (.int .u8 1)).setCell ⟨w.heap.size + 1, 4, none⟩ (.bool true))) (fun j hj => heap_setCell_other _ _ _ _ (by have := HFAR.out j hj; show j ≠ w.heap.size + 1; omega))⟩)
      go_wp2
      go_still_tail 14, (by kernel_rfl)
      go_wp2_with (first | (go_at_call 31; refine OP.out.mono ?_; rintro e w1 ⟨rfl, rfl⟩; have FI := Lib.hid (FIN.out _ R3.out C3.out T9.out T6.out); clear OP R2 C2 Q1 Q2; generalize (W2.setCell ⟨b, 4, none⟩ (.int .i64 sent')).drew = W3 at *; clear c0 c1 c2 c3 c4 c5 c6 fr; have d6 := R3.out.facts.c6; have dfr := R3.out.facts.fr; have e4 := (cell_whole T9.out 4).trans (rfl : _ = some (Value.bool false)); have f9 := frozen_whole T9.out) | (refine wpList_load_row rfl 43 _ rfl (w.heap.size + 1) rfl 43 _ (0, 0) _ FI.out.1 Tryd.underlying43 rfl (size43 _) ?_) | (refine wpList_store_row rfl 43 _ _ rfl w.heap.size _ rfl rfl 43 _ FI.out.2.1 (size43 _) rfl (one35 _ _ _ _) ?_))
      refine bodyPost_ret (v := (mkFr 8 B.base S true).val) (results_cell_row rfl _ _ w.heap.size 43 _ (0, 0) _ rfl (setRow_heap _ _ _ _ 43 _ FI.out.2.1) Tryd.underlying43 rfl (size43 _)) rfl ⟨?_, FI.out.2.2.1.setRow _ _ (Nat.le_refl _), ?_⟩
      · unfold frameR; rw [HS2.out, HF.out]; simp
      · rw [show frameB B 0 0 = { B with st := setTo B.st 1 0 0, sent := sent', ed := 1 } from by unfold frameB; rw [HSB.out, HF.out]; rfl]
        exact ⟨_, _, (FI.out.2.2.2.far (fun j hj => setRow_other _ _ j _ (by have := HFAR.out j hj; omega))).ext (fun j hj => .inl hj)⟩
    · have HF : Hid (finF B 0 = false) := Lib.hid (by unfold finF; rcases hno with ⟨_, h⟩ | h; rw [h]; simp; simp [h])
      rcases hno with ⟨hkd, hop⟩ | hkd
      · clear hkd
        rw [hop] at OP
        go_wp2
        go_still_tail 14, (by kernel_rfl)
        go_wp2_with (first | (go_at_call 31; refine OP.out.mono ?_; rintro e w1 ⟨rfl, rfl⟩) | (refine wpList_load_row rfl 43 _ rfl (w.heap.size + 1) rfl 43 _ (0, 0) _ T9.out Tryd.underlying43 rfl (size43 _) ?_) | (refine wpList_store_row rfl 43 _ _ rfl w.heap.size _ rfl rfl 43 _ T6.out (size43 _) rfl (one35 _ _ _ _) ?_))
        refine bodyPost_ret (v := (mkFr 8 B.base S false).val) (results_cell_row rfl _ _ w.heap.size 43 _ (0, 0) _ rfl (setRow_heap _ _ _ _ 43 _ T6.out) Tryd.underlying43 rfl (size43 _)) rfl ⟨?_, C3.out.setRow _ _ (Nat.le_refl _), ?_⟩
        · unfold frameR; rw [HS2.out, HF.out]; simp
        · rw [show frameB B 0 0 = { B with st := setTo B.st 1 0 0, sent := sent' } from by unfold frameB; rw [HSB.out, HF.out]; rfl]
          exact ⟨_, _, (R3.out.far (fun j hj => setRow_other _ _ j _ (by have := HFAR.out j hj; omega))).ext (fun j hj => .inl hj)⟩
      · exact absurd HD0.out.symm hkd
theorem frame_any (b : Nat) (F : Nat → Prop) (B : Bf) (f t : Nat) (w : World) (h : Inv w b F B) (hg : Good B) (hft : f ≤ t) (ht : t ≤ B.data.length) :
    Calls Tryd.prog 29 #[.pointer (some ⟨b, 0, none⟩), .int .i64 f, .int .i64 t] w fun e w' => e = .returned (frameR B f t).val ∧ Chg F w w' ∧ Inv w' b (Ext F w w') (frameB B f t) := by
  by_cases hlt : f < t
  · exact frame_piece b F B f t w h hg hft ht hlt
  · obtain rfl : f = t := by omega
    obtain ⟨vd, vs, h⟩ := h
    rcases h.rd.2 with ⟨e, e2⟩ | ⟨g, cap, cur, e, _⟩
    · subst e
      obtain rfl : f = 0 := by omega
      exact frame_nil b F B w vs h hg
    · subst e
      exact frame_empty b F B f w g cap vs h hg ht
end Go.Proofs.YtpfkeohaaeiaaaaDoor
