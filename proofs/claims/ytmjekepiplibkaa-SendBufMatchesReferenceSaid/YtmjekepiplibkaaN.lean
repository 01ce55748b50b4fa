import Derived.Test.YtmjekepiplibkaaM
namespace Go.Proofs.Ytmjekepiplibkaa
open Go.RowKit
/-- the row's end is copied to its head -/
theorem step_copy_down {P : Program} {ops : Array Oper} {o : Oper} {a : Act} {w : World} {K : Act → World → Prop} {Q : Exit → Act → World → Prop} {E : Prop} (hgd : o.guard = none) (d s : Operand) (dT sT : TypeId)
    (ho : o.op = .call { callee := .builtin .copy, args := #[d, s], argTypes := #[dT, sT] }) (elem : TypeId) (hu : P.underlying dT = some (.slice elem)) (hsz : (P.info? elem).map (·.size) = some 1)
    (g n cap p m : Nat) (xs : List Value) (hown : w.ownsRow 0 elem 1 (.slice (some ⟨g, 0, none⟩) n cap) n xs) (hpm : p + m = n) (h1 : ∀ v ∈ xs, v.oneCell' = true)
    (hd : a.eval d = .slice (some ⟨g, 0, none⟩) n cap) (sp : Option Addr) (sCap : Nat) (hs : a.eval s = .slice sp m sCap) (hsp : 0 < m → sp = some ⟨g, p, none⟩)
    (h : ∀ w', w'.ownsRow 0 elem 1 (.slice (some ⟨g, 0, none⟩) m cap) m (xs.drop p) → w.grownBy w' (some g) → K (a.put o.dst (goInt m)) w') :
    if Region.wanted o (yielded ops a.tmps) = true then Oper.wp P o a w K Q else E := by
  have hw : Region.wanted o (yielded ops a.tmps) = true := by simp [Region.wanted, hgd]
  rw [if_pos hw]
  obtain ⟨hl, hr⟩ := hown
  rcases hr with ⟨e, _⟩ | ⟨g', cap', cur, e, hb, hg, hn, hc, hcs, htk⟩
  · cases e
  simp only [Value.slice.injEq, Option.some.injEq, Addr.mk.injEq] at e
  obtain ⟨⟨rfl, _, _⟩, _, rfl⟩ := e
  simp only [Nat.mul_one] at *
  have hdl : (xs.drop p).length = m := by rw [List.length_drop]; omega
  by_cases h0 : m = 0
  · subst h0
    have hrun := run_copy_none (P := P) w dT sT o.type elem (some ⟨g, 0, none⟩) sp n cap 0 sCap hu hsz (by simp)
    unfold Oper.wp
    simp [execOp, ho, resolve, invoke, builtin, hd, hs, hrun, Result.andThen]
    exact h w ⟨by simpa using hdl, .inr ⟨g, cap, cur, rfl, hb, hg, Nat.zero_le _, hc, by simpa using hcs, by simpa using (List.eq_nil_of_length_eq_zero hdl).symm⟩⟩ ⟨rfl, rfl, rfl, Nat.le_refl _, fun _ _ _ => rfl⟩
  · obtain rfl := hsp (by omega)
    have hx : ∀ j v, (xs.drop p)[j]? = some v → w.cell? ((⟨g, p, none⟩ : Addr).add j) = some v := by
      intro j v hj
      rw [List.getElem?_drop, ← htk] at hj
      have hlt : p + j < n := by
        rcases Nat.lt_or_ge (p + j) n with h | h
        · exact h
        · rw [List.getElem?_eq_none (by simp; omega)] at hj; cases hj
      rw [List.getElem?_take_of_lt hlt] at hj
      rw [add_plain]
      simp only [World.cell?, hg]
      simpa using hj
    have hrun := run_copy_row (P := P) w dT sT o.type elem g 0 n cap ⟨g, p, none⟩ m sCap cur elem (xs.drop p) hu hsz hg (by rw [hdl]; exact (Nat.min_eq_left (by omega)).symm) hx (by rw [hdl]; omega) (fun v hv => h1 v (List.mem_of_mem_drop hv))
    unfold Oper.wp
    simp [execOp, ho, resolve, invoke, builtin, hd, hs, hrun, Result.andThen]
    rw [show xs.length - p = m from by omega]
    refine h _ ⟨by simpa using hdl, .inr ⟨g, cap, _, rfl, hb, setRow_heap w g cur _ elem _ hg, by omega, hc, ?_, ?_⟩⟩ ⟨rfl, rfl, rfl, by simp, fun k _ hk => setRow_other w g k _ (fun e => hk (by rw [e]))⟩
    · simp; omega
    · simp only [Nat.mul_one]; rw [← hdl]; simp
end Go.Proofs.Ytmjekepiplibkaa
