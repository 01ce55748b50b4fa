/- The reference's Write. -/
import Derived.Test.YtmjekepiplibkaaRa
import Derived.Test.YtmjekepiplibkaaFrA
namespace Go.Proofs.Ytmjekepiplibkaa
open Go.RowKit
theorem Rr.newRow {w w3 : World} {r : Nat} {G : Nat → Prop} {A : ByteArray} {X X' : Wh} {vs v1 : Value} (R : Rr w r G A X vs) (hg : w.grownBy w3 vs.ownBlock) (hk : ∀ k, v1.ownBlock = some k → vs.ownBlock = some k ∨ w.heap.size ≤ k)
    (ho : w3.ownsRow 0 3 1 v1 X'.T.length (X'.T.map (.int .i64))) (e : (rcells X A vs).setIfInBounds 2 v1 = rcells X' A v1) (hs : X'.S = X.S) :
    Chg G w (w3.setCell ⟨r, 2, none⟩ v1) ∧ Rr (w3.setCell ⟨r, 2, none⟩ v1) r (Ext G w (w3.setCell ⟨r, 2, none⟩ v1)) A X' v1 := by
  have hb : w3.heap[r]? = some (.cells (rcells X A vs) 54 (0, 0)) := (hg.block r (heap_lt R.obj) (fun e => (R.gs r e.symm).2 rfl)).trans R.obj
  have hvd : ∀ k, v1.ownBlock = some k → k ≠ r := fun k h e => by
    subst e
    rcases hk k h with h1 | h1
    · exact (R.gs k h1).2 rfl
    · exact Nat.not_le.2 (heap_lt R.obj) h1
  refine ⟨(Chg.grownO hg (fun k h => (R.gs k h).1)).set r 2 _ R.gr, ⟨by rw [heap_set v1 hb, e], own_same ho (fun k h => heap_setCell_other w3 _ k v1 (hvd k h)), .inl R.gr, fun k h => ⟨?_, hvd k h⟩, by rw [R.sz, hs]⟩⟩
  rcases hk k h with h1 | h1
  · exact .inl (R.gs k h1).1
  · exact .inr ⟨h1, by simpa using own_lt ho k h⟩
theorem facts3 : ∃ i, Try.prog.info? 3 = some i ∧ i.zero = some (.int .i64 0) ∧ i.size = 1 ∧ i.bytes = 8 := by
  have h := (by kernel_rfl : (Try.prog.info? 3).map (fun i => (i.zero, i.size, i.bytes)) = some (some (.int .i64 0), 1, 8))
  obtain ⟨i, h1, h2, h3, h4⟩ := info_parts h
  exact ⟨i, h1, h2, h3, h4⟩
/-- 'append(own, n)', of integers -/
theorem wpList_append_int1 {ops : Array Oper} {rest : List Oper} {o : Oper} {a : Act} {w : World} {Q : Exit → Act → World → Prop} (hgd : o.guard = none) (s x : Operand)
    (ho : o.op = .call { callee := .builtin .append, args := #[s, x], argTypes := #[22, 22] }) {v : Value} {T : List Int} {m : Nat} (hs : a.eval s = v) (hown : w.ownsRow 0 3 1 v m (T.map (.int .i64)))
    (n : Int) (g : Nat) (hx : a.eval x = .slice (some ⟨g, 0, none⟩) 1 1) (hg : w.heap[g]? = some (.cells #[.int .i64 n] 3 (0, 0))) (hl : m ≤ 1152921504606)
    (hK : ∀ v' w', w'.ownsRow 0 3 1 v' (m + 1) ((T ++ [n]).map (.int .i64)) → w.grownBy w' v.ownBlock → (∀ k, v'.ownBlock = some k → v.ownBlock = some k ∨ w.heap.size ≤ k) → wpList Try.prog ops Q rest (a.put o.dst v') w') : wpList Try.prog ops Q (o :: rest) a w := by
  obtain ⟨i, e1, e2, e3, e4⟩ := facts3
  have hsrc : Src Try.prog 1 22 (.slice (some ⟨g, 0, none⟩) 1 1) 1 [.int .i64 n] w := Src.ofSlice w Try.underlying22 _ 1 1 _ rfl (fun j u hu => by rw [add_plain, Nat.zero_add, cell_whole hg]; simpa using hu) (fun u hu => by simp at hu; subst hu; rfl)
  refine wpList_plain hgd fun _ hKK => ?_
  obtain ⟨v', w', hr, h2, h3, h4⟩ := run_append_src (P := Try.prog) w 0 22 22 o.type 3 i (.int .i64 0) 1 8 Try.underlying22 e1 e2 e3 e4 rfl (by decide) v m _ hown _ 1 [.int .i64 n] hsrc (by unfold maxLen; omega) (by omega) (Nat.zero_le _)
  unfold Oper.wp execOp
  simp only [ho, resolve, invoke, builtin, Sem.run_bind, Sem.run_pure, Result.andThen_ok, List.map_toArray, List.map_cons, List.map_nil, hs, hx, hr]
  exact hKK _ _ (hK v' w' (by simpa using h2) h3 h4)
theorem rwrite_step {w wr w3 : World} {r k m : Nat} {G : Nat → Prop} {A : ByteArray} {X : Wh} {v v2 : Value} {o : Obj} (R : Rr wr r (Ext G w wr) A { X with T := X.T ++ List.replicate k 0 } v) (C : Chg G w wr) (hm : m = X.T.length + k + 1)
    (hg : (wr.alloc o).grownBy w3 v.ownBlock) (hk : ∀ j, v2.ownBlock = some j → v.ownBlock = some j ∨ (wr.alloc o).heap.size ≤ j) (ho : w3.ownsRow 0 3 1 v2 m ((X.T ++ List.replicate k 0 ++ [0]).map (.int .i64))) :
    Rr (w3.setCell ⟨r, 2, none⟩ v2) r (Ext G w (w3.setCell ⟨r, 2, none⟩ v2)) A { X with T := X.T ++ List.replicate (k + 1) 0 } v2 ∧ Chg G w (w3.setCell ⟨r, 2, none⟩ v2) := by
  have hB : Below wr.heap.size wr (wr.alloc o) := (Below.refl _ wr).alloc (Nat.le_refl _) _
  have h1 := C.size
  have h2 := hB.size
  have e : X.T ++ List.replicate k 0 ++ [0] = X.T ++ List.replicate (k + 1) (0 : Int) := by rw [List.append_assoc]; congr 1; exact (List.replicate_succ').symm
  rw [e] at ho
  have N := (R.below hB).newRow (X' := { X with T := X.T ++ List.replicate (k + 1) 0 }) hg hk (by show w3.ownsRow 0 3 1 v2 (X.T ++ List.replicate (k + 1) (0 : Int)).length _; rw [show (X.T ++ List.replicate (k + 1) (0 : Int)).length = m by simp; omega]; exact ho) rfl rfl
  have h3 := N.1.size
  refine ⟨N.2.ext (fun j hj => ?_), (C.trans1 (Chg.below hB)).trans (N.1.mono (fun j hj => ?_))⟩
  · rcases hj with (hj | hj) | hj
    · exact .inl hj
    · exact .inr ⟨hj.1, by omega⟩
    · exact .inr ⟨by omega, hj.2⟩
  · rcases hj with hj | hj
    · exact .inl hj
    · exact .inr ⟨hj.1, by omega⟩
set_option maxHeartbeats 2000000 in
theorem rwrite_any (r : Nat) (G : Nat → Prop) (X : Wh) (s : ByteArray) (w : World) (h : RInv w r G X) (hx : X.Ok) (hs : s.size ≤ 100) (hf : X.S.length ≤ 100000) :
    Calls Try.prog 24 #[.pointer (some ⟨r, 0, none⟩), .string s] w fun e w' => e = .returned (.int .i64 (X.writeN s : Int)) ∧ Chg G w w' ∧ RInv w' r (Ext G w w') (X.write s) := by
  have SP := Lib.hid (rspace_any r G X w h hx)
  have hsp : 0 ≤ X.space ∧ X.space ≤ 8192 := by
    have h1 := hx.cap; have h2 := hx.l1; have h3 := hx.l2; have h4 := X.u_le; have h5 := hx.len
    unfold Wh.space; split <;> omega
  obtain ⟨A, vs, h⟩ := h
  have hz := h.size
  have hTl := hx.len
  obtain ⟨n, hn⟩ : ∃ n, X.writeN s = n := ⟨_, rfl⟩
  have hmin : (n : Int) ≤ s.size ∧ (n : Int) ≤ X.space := by unfold Wh.writeN at hn; omega
  have HW := Lib.hid (show X.write s = { X with S := X.S ++ (bytesOf s).take n, T := X.T ++ List.replicate n 0 } from by unfold Wh.write; rw [hn])
  rw [hn]
  have hmn : (if X.space < (s.size : Int) then X.space else (s.size : Int)) = n := by unfold Wh.writeN at hn; split <;> omega
  clear hn
  generalize X.space = sp at *
  obtain ⟨hm1, hm2⟩ := hmin
  have hns : n ≤ s.size := by omega
  have hA : A.size ≤ 100000 := by omega
  have hT9 : X.T.length ≤ 100000 := by omega
  have hE : bytesOf (A ++ s.extract 0 n) = X.S ++ (bytesOf s).take n := by rw [bytesOf_append, bytesOf_extract, h.sz]; simp
  obtain ⟨s3, hE3⟩ : ∃ s3, s.extract 0 n = s3 := ⟨_, rfl⟩
  have hs3 : s3.size ≤ 100 := by rw [← hE3, ByteArray.size_extract]; omega
  have HE : Hid (bytesOf (A ++ s3) = X.S ++ (bytesOf s).take n) := Lib.hid (by rw [← hE3]; exact hE)
  have HR := Lib.hid h
  clear h hz hTl hx hE
  go_enter Try.func24, Try.ntmps24
  go_wp2_with (go_at_call 37; refine SP.out.mono ?_; rintro e w' ⟨rfl, m, rfl⟩)
  have HR1 := Lib.hid (HR.out.drewN m)
  have HC : Hid (Chg G w (w.drewN m)) := Lib.hid ⟨rfl, rfl, rfl, Nat.le_refl _, fun _ _ _ => rfl⟩
  change Code.wp _ _ _ _ (w.drewN m)
  generalize w.drewN m = w1 at *
  obtain ⟨c0, c1, c2, c3, c4, fr⟩ := HR1.out.facts
  clear c0 c2 c3 c4
  have hcat : (9223372036854775807 < A.size + s3.size) = False := eq_false (by omega)
  go_still_tail 11, (by kernel_rfl)
  go_wp2
  have R2 := Lib.hid ((HR1.out.set (X' := { X with S := X.S ++ (bytesOf s).take n }) (A' := A ++ s3) 1 (.string (A ++ s3)) rfl rfl HE.out).drew)
  have C2 := Lib.hid (((HC.out).set r 1 (.string (A ++ s3)) HR1.out.gr).drew)
  clear HR1 HC HR c1 fr hcat hE3 HE SP
  generalize (w1.setCell ⟨r, 1, none⟩ (.string (A ++ s3))).drew = W2 at *
  go_loopw [6] (fun i wr => ∃ (k : Nat) (v : Value), k ≤ n ∧ i = .int .i64 k ∧ Hid (Rr wr r (Ext G w wr) (A ++ s3) { X with S := X.S ++ (bytesOf s).take n, T := X.T ++ List.replicate k 0 } v) ∧ Hid (Chg G w wr)) (fun i _ => n - (intOf i).toNat)
  case atStart => exact ⟨0, vs, Nat.zero_le _, rfl, Lib.hid (by simpa using R2.out.ext (fun k hk => .inl hk)), C2⟩
  case round =>
    obtain ⟨k, v, hk, rfl, R, C⟩ := hrel
    clear R2 C2
    by_cases hlt : k < n
    · have hrs := R.out.rs
      rw [show ({ X with S := X.S ++ (bytesOf s).take n, T := X.T ++ List.replicate k 0 } : Wh).T.length = X.T.length + k from by simp] at hrs
      obtain ⟨a, cap, hv, hcap⟩ := own_form hrs
      subst hv
      have HRS := Lib.hid hrs
      clear hrs
      obtain ⟨c0, c1, c2, c3, c4, fr⟩ := R.out.facts
      have Rz := Lib.hid (heap_lt R.out.obj)
      have HB : Hid (Below wr.heap.size wr (wr.alloc (.cells #[.int .i64 0] 3))) := Lib.hid ((Below.refl _ wr).alloc (Nat.le_refl _) _)
      clear c0 c1 c3 c4
      go_wp2_with (at_builtin; refine wpList_append_int1 (by rfl) _ _ (by rfl) (by rfl) (own_same HRS.out (fun j hj => HB.out.block j (own_lt HRS.out j hj))) 0 wr.heap.size (by rfl) (heap_alloc_new wr _) (by omega) ?_; intro v2 w3 ho hg hk; obtain ⟨a2, cap2, hv2, hcap2⟩ := own_form ho; subst hv2; have c2' := (cell_whole ((hg.block r (heap_lt (R.out.below HB.out).obj) (fun e => ((R.out.below HB.out).gs r e.symm).2 rfl)).trans (R.out.below HB.out).obj) 2).trans (rfl : _ = some _); have fr' := frozen_whole ((hg.block r (heap_lt (R.out.below HB.out).obj) (fun e => ((R.out.below HB.out).gs r e.symm).2 rfl)).trans (R.out.below HB.out).obj))
      have N := Lib.hid (rwrite_step (X := { X with S := X.S ++ (bytesOf s).take n }) R.out C.out rfl hg hk ho)
      go_roundw
      case rel => exact ⟨k + 1, _, by omega, by simp, Lib.hid N.out.1, Lib.hid N.out.2⟩
      case measure => simp [intOf]; omega
    · obtain rfl : k = n := by omega
      go_wp2
      go_ret
      exact ⟨rfl, C.out, _, _, by rw [HW.out]; exact R.out⟩
end Go.Proofs.Ytmjekepiplibkaa
