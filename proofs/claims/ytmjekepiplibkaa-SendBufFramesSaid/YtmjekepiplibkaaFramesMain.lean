/- SendBufFrames: the frames of any sequence of calls carry the written bytes. -/
import Derived.Test.YtmjekepiplibkaaFrA
import Derived.Test.YtmjekepiplibkaaCp
import Derived.Test.YtmjekepiplibkaaT
import Derived.Test.YtmjekepiplibkaaS
import Derived.Deep.DeepCutAuto
import Derived.Deep.CutBlock
namespace Go.Proofs.Ytmjekepiplibkaa
open Go.RowKit
theorem size44 (c : Cp) : (Try.prog.info? 44).map (·.size) = some c.cells.length := by kernel_rfl
def cpO (c : Cp) : Obj := .cells c.cells.toArray 44 (0, 0)
theorem str_ne' {s : ByteArray} (h : 0 < s.size) : s.toList.isEmpty = false := by
  rw [Go.ByteArray.toList_eq]
  have e2 : s.data.toList.length = s.size := by rw [Array.length_toList]; rfl
  cases e : s.data.toList with
  | nil => rw [e] at e2; simp at e2; omega
  | cons a l => rfl
theorem str_empty {s : ByteArray} (h : s.size = 0) : s.toList.isEmpty = true := by
  rw [Go.ByteArray.toList_eq]
  have e2 : s.data.toList.length = s.size := by rw [Array.length_toList]; rfl
  cases e : s.data.toList with
  | nil => rfl
  | cons a l => rw [e] at e2; simp at e2; omega
theorem one_cp {c : Cp} (h : CpWf c) : c.cells.toArray.all (·.oneCell') = true := by
  have := h.f.ranges
  simp [Cp.cells, Fr.cells, Value.oneCell']
  exact this
/-- a call out of the argument -/
theorem wpList_load_cp {ops : Array Oper} {rest : List Oper} {o : Oper} {a : Act} {w : World} {Q : Exit → Act → World → Prop} (hgd : o.guard = none) (x : Operand) (ho : o.op = .load 44 x) (c : Cp)
    (g k : Nat) (hx : a.eval x = .pointer (some ⟨g, k, none⟩)) (hc : w.rangeAt g k c.cells)
    (h : wpList Try.prog ops Q rest (a.put o.dst (.agg c.cells.toArray)) w) : wpList Try.prog ops Q (o :: rest) a w :=
  wpList_load_mid hgd 44 x ho g k hx c.cells _ hc Try.underlying44 rfl (size44 c) h
theorem wpList_store_cp {ops : Array Oper} {rest : List Oper} {o : Oper} {a : Act} {w : World} {Q : Exit → Act → World → Prop} (hgd : o.guard = none) (x y : Operand) (ho : o.op = .store 44 x y) (c : Cp) (h1 : c.cells.toArray.all (·.oneCell') = true)
    (cs : Array Value) (hcs : cs.size = 18) (hx : a.eval x = .pointer (some ⟨w.heap.size, 0, none⟩)) (hy : a.eval y = .agg c.cells.toArray)
    (h : wpList Try.prog ops Q rest (a.put o.dst undef) (w.alloc (.cells c.cells.toArray 44))) : wpList Try.prog ops Q (o :: rest) a (w.alloc (.cells cs 44)) :=
  wpList_store_row hgd 44 x y ho w.heap.size c.cells.toArray hx hy 44 cs (heap_alloc_new _ _) (size44 c) hcs h1 (by rw [World.setRow_alloc_new]; exact h)
structure CpBox (w : World) (g : Nat) (c : Cp) : Prop where
  d0 : w.cell? ⟨g, 0, none⟩ = some (.int .i64 c.kind)
  d1 : w.cell? ⟨g, 1, none⟩ = some (.int .i64 c.n)
  d2 : w.cell? ⟨g, 2, none⟩ = some (.int .i64 c.credit)
  d3 : w.cell? ⟨g, 3, none⟩ = some (.string c.s)
  d4 : w.cell? ⟨g, 4, none⟩ = some (.int .i64 c.which)
theorem CpBox.of {w : World} {g : Nat} {c : Cp} (h : w.heap[g]? = some (cpO c)) : CpBox w g c := ⟨cell_whole h 0, cell_whole h 1, cell_whole h 2, cell_whole h 3, cell_whole h 4⟩
/-- the state of SendBufFrames at a round's head -/
structure FrSt (W w : World) (b k : Nat) (F : Nat → Prop) (X : Wh) (A : ByteArray) (os : List (Nat × Obj)) (v : Value) (l : List Fr) : Prop where
  sf : Sf W w b F X os v l
  all : bytesOf A = X.S
  ok : ∀ f ∈ l, FrOk X f
  few : l.length ≤ k
  short : A.size ≤ 30 * k
section
variable {W w w' : World} {b k : Nat} {F F' : Nat → Prop} {X : Wh} {A : ByteArray} {os os' : List (Nat × Obj)} {v v' : Value} {l : List Fr}
theorem FrSt.S_le (h : FrSt W w b k F X A os v l) : X.S.length ≤ 30 * k := by rw [← h.all, bytesOf_length]; exact h.short
theorem fin_n {X : Wh} (h : X.fin = true) (s : ByteArray) : X.writeN s = 0 := by unfold Wh.writeN Wh.space; rw [h]; simp
theorem FrSt.write (h : FrSt W w b k F X A os v l) (s : ByteArray) (hs : s.size ≤ 30) (h2 : Sf W w' b F' (X.write s) os' v l) : FrSt W w' b (k + 1) F' (X.write s) (A ++ s.extract 0 (X.writeN s)) os' v l := by
  have hn := (X.writeN_le s).1
  have hf := h.few; have hsh := h.short
  refine ⟨h2, ?_, fun f hf => (h.ok f hf).write h.sf.ok s, by omega, ?_⟩
  · rw [bytesOf_append, bytesOf_take, h.all]; rfl
  · rw [ByteArray.size_append, ByteArray.size_extract]; omega
theorem fr_write {s : ByteArray} {n : Nat} (h : Sf W w b F X os v l) (hn : Hid (X.writeN s = n)) (hs : s.size ≤ 30) (hf : X.S.length ≤ 1500) :
    Calls Try.prog 14 #[.pointer (some ⟨b, 0, none⟩), .string s] w fun e w' => e = .returned (.int .i64 (n : Int)) ∧ ∃ F', Sf W w' b F' (X.write s) os v l := by
  have h1 := (X.writeN_le s).1
  have := sf_write h s (by unfold maxLen; omega) (by omega)
  rw [hn.out] at this; exact this
theorem Sf.drew (h : Sf W w b F X os v l) : Sf W w.drew b F X os v l := h.same ((Below.refl _ w).drew)
theorem acked_fin (X : Wh) (f : Fr) : (X.acked f).fin = X.fin := by unfold Wh.acked; split <;> rfl
theorem lost_fin (X : Wh) (f : Fr) : (X.lost f).fin = X.fin := by unfold Wh.lost; split <;> rfl
theorem Sf.at {g m cap k : Nat} {f : Fr} (h : Sf W w b F X os (.slice (some ⟨g, 0, none⟩) m cap) l) (hk : l[k]? = some f) : w.rangeAt g (k * 13) f.cells.toList := by
  obtain ⟨g', cap', e, _, hr⟩ := h.elem hk
  simp only [Value.slice.injEq, Option.some.injEq, Addr.mk.injEq] at e
  obtain ⟨⟨rfl, _, _⟩, _, _⟩ := e
  exact hr
theorem FrSt.none (h : FrSt W w b k F X A os v l) (h2 : Sf W w' b F' X os' v l) : FrSt W w' b (k + 1) F' X A os' v l :=
  ⟨h2, h.all, h.ok, Nat.le_succ_of_le h.few, by have := h.short; omega⟩
theorem FrSt.next (h : FrSt W w b k F X A os v l) {most credit : Int} {p : Nat × Nat} (hp : X.nextP most credit = some p) {f : Fr} (hf : FrOk (X.nextX (some p)) f) (h2 : Sf W w' b F' (X.nextX (some p)) os' v' (l ++ [f])) : FrSt W w' b (k + 1) F' (X.nextX (some p)) A os' v' (l ++ [f]) := by
  have hw := h.few; have hsh := h.short
  refine ⟨h2, h.all, fun g hg => ?_, by simp; omega, by omega⟩
  rcases List.mem_append.1 hg with hg | hg
  · have := (h.ok g hg).next h.sf.ok most credit
    rw [hp] at this; exact this
  · simp only [List.mem_singleton] at hg; subst hg; exact hf
theorem FrSt.acked (h : FrSt W w b k F X A os v l) (f : Fr) (h2 : Sf W w' b F' (X.acked f) os' v l) : FrSt W w' b (k + 1) F' (X.acked f) A os' v l := by
  have hw := h.few; have hsh := h.short
  refine ⟨h2, ?_, fun g hg => (h.ok g hg).acked h.sf.ok f, by omega, by omega⟩
  rw [h.all]; unfold Wh.acked; split <;> rfl
theorem FrSt.lost (h : FrSt W w b k F X A os v l) (f : Fr) (h2 : Sf W w' b F' (X.lost f) os' v l) : FrSt W w' b (k + 1) F' (X.lost f) A os' v l := by
  have hw := h.few; have hsh := h.short
  refine ⟨h2, ?_, fun g hg => (h.ok g hg).lost h.sf.ok f, by omega, by omega⟩
  rw [h.all]; unfold Wh.lost; split <;> rfl
theorem FrSt.finish (h : FrSt W w b k F X A os v l) (h2 : Sf W w' b F' { X with fin := true } os' v l) : FrSt W w' b (k + 1) F' { X with fin := true } A os' v l := by
  have hw := h.few; have hsh := h.short
  exact ⟨h2, h.all, fun g hg => (h.ok g hg).finish, by omega, by omega⟩
end
end Go.Proofs.Ytmjekepiplibkaa
namespace Go.Proofs.Ytmjekepiplibkaa.sendBufFrames
open Go.RowKit Go.WideShapes Go.ChangeShapes
set_option maxRecDepth 100000 in
set_option maxHeartbeats 80000000 in
theorem walk (limit : Int) (cl : List Cp) (a0 : Option Addr) (cap0 : Nat) (w : World) (hl : -9223372036854775808 ≤ limit ∧ limit ≤ 9223372036854775807)
    (hz : CpsAt w (.slice a0 cl.length cap0) cl) (hmz : cl.length ≤ maxLen) (hrz : ∀ c ∈ cl, CpWf c) :
    Calls Try.prog 4 #[.int .i64 limit, .slice a0 cl.length cap0] w fun e w' => e = .returned (.bool true) ∧ Below w.heap.size w w' := by
  unfold maxLen at hmz
  have PL := Lib.hid (fun (wx : World) => pick_any limit 40 wx hl.1 hl.2 (by decide) (by decide))
  have r1 := pickF_range limit 40 (by decide)
  generalize pickF limit 40 = p at *
  obtain ⟨p1, p2⟩ := r1
  have HZ := Lib.hid hz
  have HRZ := Lib.hid hrz
  clear hz hrz hl
  go_enter Try.func4, Try.ntmps4
  go_wp2_with (first
    | (go_at_call 9; refine (sane_any _).mono ?_; rintro e w1 ⟨rfl, HB2⟩; have HB := Lib.hid HB2; clear HB2)
    | (go_at_call 11; refine (PL.out _).mono ?_; rintro e wm ⟨rfl, rfl⟩)
    | (go_at_call 12; refine (sf_new _ (by omega) (by omega) HB.out).mono ?_; rintro e wn ⟨rfl, H2⟩; have H := Lib.hid H2; clear H2))
  have H0 := H
  clear H
  go_loopw [8, 9, 10, 11] (fun al fi v i wr => ∃ (k : Nat) (X : Wh) (A : ByteArray) (l : List Fr) (F : Nat → Prop), k ≤ cl.length ∧ k ≤ 50 ∧ i = .int .i64 k ∧ al = .string A ∧ fi = .bool X.fin ∧ Hid (FrSt w wr w1.heap.size k F X A [] v l)) (fun _ _ _ i _ => 50 - (intOf i).toNat)
  case atStart => exact ⟨0, _, ⟨#[]⟩, [], _, by omega, by omega, rfl, rfl, rfl, Lib.hid ⟨H0.out, rfl, (fun f hf => by cases hf), Nat.le_refl _, by decide⟩⟩
  case round =>
    obtain ⟨k, X, A, l, F, hk1, hk2, rfl, rfl, rfl, HS⟩ := hrel
    clear H0
    have hAk : A.size ≤ 1500 := by have := HS.out.short; omega
    have hSk : X.S.length ≤ 1500 := by have := HS.out.S_le; omega
    have H := Lib.hid HS.out.sf
    obtain ⟨va, vcap, rfl, hvcap⟩ := HS.out.sf.form
    have hlk : l.length ≤ 50 := by have := HS.out.few; omega
    by_cases hlt : k < cl.length ∧ k < 50
    · obtain ⟨hlt1, hlt2⟩ := hlt
      obtain ⟨c, hc⟩ : ∃ c, cl[k]? = some c := ⟨_, List.getElem?_eq_getElem hlt1⟩
      have hwf := HRZ.out c (List.mem_of_getElem? hc)
      obtain ⟨b4, off4, hz4, hx4⟩ : ∃ b4 off4, a0 = some ⟨b4, off4, none⟩ ∧ wr.rangeAt b4 (off4 + k * 18) c.cells ∧ cl.length ≤ cap0 ∧ cap0 ≤ maxLen := by
        rcases HZ.out with ⟨h0, _⟩ | ⟨b4, off4, c4, e, h0, hl4, hc4, hx4⟩
        · rw [h0] at hlt1; simp at hlt1
        · simp only [Value.slice.injEq] at e
          obtain ⟨e1, _, rfl⟩ := e
          exact ⟨b4, off4, e1, (fun j u hu => (HS.out.sf.below.cell (p := ⟨b4, off4 + k * 18 + j, none⟩) (World.block_lt_of_cell? _ _ (hx4 k c hc j u hu))).trans (hx4 k c hc j u hu)), hl4, hc4⟩
      obtain ⟨hx4, hl4, hc4⟩ := hx4
      unfold maxLen at hc4
      subst hz4
      have HX4 := Lib.hid hx4
      have ONE := Lib.hid (one_cp hwf)
      obtain ⟨w1k, w1n, w1c, w1s, w1w, _⟩ := hwf
      have PK := Lib.hid (fun (wx : World) => pick_any c.kind 8 wx w1k.lo w1k.hi (by decide) (by decide))
      have PN := Lib.hid (fun (wx : World) => pick_any c.n 20 wx w1n.lo w1n.hi (by decide) (by decide))
      have PC := Lib.hid (fun (wx : World) => pick_any c.credit 20 wx w1c.lo w1c.hi (by decide) (by decide))
      have rk := pickF_range c.kind 8 (by decide)
      have rn := pickF_range c.n 20 (by decide)
      have rc := pickF_range c.credit 20 (by decide)
      generalize pickF c.kind 8 = q at *
      generalize pickF c.n 20 = pn at *
      generalize pickF c.credit 20 = pc at *
      obtain ⟨rn1, rn2⟩ := rn
      clear hx4 hc rc w1k w1n w1c
      unfold maxLen at w1s
      have hq : (q = 0 ∨ q = 1) ∨ (q = 2 ∨ q = 3 ∨ q = 4) ∨ q = 7 ∨ (q = 5 ∨ q = 6) := by omega
      have T1 : Hid (1 = 1) := Lib.hid rfl
      have T2 : Hid (1 = 1) := Lib.hid rfl
      have T3 : Hid (1 = 1) := Lib.hid rfl
      go_upto_block 2 with (first
        | (refine wpList_load_cp rfl _ rfl c b4 (off4 + k * 18) (by rfl) HX4.out ?_)
        | (have T0 := T1.out; clear T0 T1; refine wpList_store_cp rfl _ _ rfl c ONE.out _ (by rfl) (by rfl) (by rfl) ?_; have H2 := H.out.alloc (.cells c.cells.toArray 44); clear H; have H := Lib.hid H2; clear H2; have D : CpBox (wr.alloc (.cells c.cells.toArray 44)) wr.heap.size c := CpBox.of (H.out.far (wr.heap.size, cpO c) (by exact List.mem_cons_self ..)).1; obtain ⟨d0, d1, d2, d3, d4⟩ := D; generalize wr.alloc (.cells c.cells.toArray 44) = wx at *)
        | (go_at_call 11; refine (PK.out _).mono ?_; rintro e wm ⟨rfl, rfl⟩))

      rcases hq with hq | hq | rfl | hq
      · as_aux_lemma =>
          go_upto_if 70 with (fail)
          go_cut [70] from 30 to 200 (fun s w' => s = .bool true ∧ w' = wx)
          case first =>
            rcases hq with rfl | rfl
            all_goals
              go_wp2
              go_meet
              exact ⟨rfl, rfl⟩
          case rest =>
          obtain ⟨rfl, rfl⟩ := hcut
          have hmn : ∃ mn : Nat, (if (30 : Int) < (c.s.size : Int) then (30 : Int) else (c.s.size : Int)) = (mn : Int) ∧ mn ≤ 30 ∧ mn ≤ c.s.size := by
            by_cases e : (30 : Int) < (c.s.size : Int)
            · exact ⟨30, by rw [if_pos e]; rfl, by omega, by omega⟩
            · exact ⟨c.s.size, by rw [if_neg e], by omega, by omega⟩
          obtain ⟨mn, hmn1, hmn2, hmn3⟩ := hmn
          have hs2 : (c.s.extract 0 mn).size ≤ 30 := by rw [ByteArray.size_extract]; omega
          obtain ⟨s2, hE⟩ : ∃ s2, c.s.extract 0 mn = s2 := ⟨_, rfl⟩
          rw [hE] at hs2
          obtain ⟨n, hn⟩ : ∃ n, X.writeN s2 = n := ⟨_, rfl⟩
          have hn1 : n ≤ s2.size := by have := (X.writeN_le s2).1; omega
          obtain ⟨s3, hE3⟩ : ∃ s3, s2.extract 0 n = s3 := ⟨_, rfl⟩
          have hs3 : s3.size ≤ 30 := by rw [← hE3, ByteArray.size_extract]; omega
          have hlt0 : decide ((n : Int) < 0) = false := decide_eq_false (by omega)
          have hltn : decide (s2.size < n) = false := decide_eq_false (by omega)
          have HW : Hid (A ++ s2.extract 0 (X.writeN s2) = A ++ s3) := Lib.hid (by rw [hn, hE3])
          have HFN := Lib.hid (fun h : X.fin = true => fin_n h s2)
          have HN := Lib.hid hn
          clear hn
          have hcF : X.fin = true ∨ X.fin = false := by cases X.fin <;> simp
          rcases hcF with hfn | hfn
          all_goals
            have HF := Lib.hid hfn
            rw [hfn]
            clear hfn
          · have h0 : n = 0 := by rw [← HN.out]; exact HFN.out HF.out
            subst h0
            have HA0 : Hid (A ++ s3 = A) := Lib.hid (by apply bytesOf_inj; rw [bytesOf_append, ← hE3, bytesOf_extract]; simp)
            all_goals
              go_wp2_with (first
                | (go_at_call 14; refine (fr_write H.out HN hs2 hSk).mono ?_; rintro e wf ⟨rfl, F2, H2⟩; clear H; have H := Lib.hid H2; clear H2))
              go_roundw
              case rel => exact ⟨k + 1, X.write s2, A, l, F2, hlt1, hlt2, by simp, rfl, by rw [← HF.out]; rfl, Lib.hid (by rw [← HA0.out, ← HW.out]; exact HS.out.write s2 hs2 (H.out.sub (os' := []) (by simp)))⟩
              case measure => simp [intOf]; omega
          · all_goals
              go_wp2_with (first
                | (go_at_call 14; refine (fr_write H.out HN hs2 hSk).mono ?_; rintro e wf ⟨rfl, F2, H2⟩; clear H; have H := Lib.hid H2; clear H2))
              go_roundw
              case rel => exact ⟨k + 1, X.write s2, A ++ s3, l, F2, hlt1, hlt2, by simp, rfl, by rw [← HF.out]; rfl, Lib.hid (by rw [← HW.out]; exact HS.out.write s2 hs2 (H.out.sub (os' := []) (by simp)))⟩
              case measure => simp [intOf]; omega
      · as_aux_lemma =>
          go_upto_if 103 with (fail)
          go_cut [103] from 30 to 200 (fun s w' => s = .bool true ∧ w' = wx)
          case first =>
            rcases hq with rfl | rfl | rfl
            all_goals
              go_wp2
              go_meet
              exact ⟨rfl, rfl⟩
          case rest =>
          obtain ⟨rfl, rfl⟩ := hcut
          have hpF : X.fin = true ∨ X.fin = false := by cases X.fin <;> simp
          have OZ : Hid (fr0.cells.all (·.oneCell') = true) := Lib.hid (one35 _ _ _ _)
          cases hp : X.nextP pn pc with
          | none =>
            have NX : Hid (∀ (wx : World) (F : Nat → Prop) (os : List (Nat × Obj)) (v : Value), Sf w wx w1.heap.size F X os v l → Calls Try.prog 16 #[.pointer (some ⟨w1.heap.size, 0, none⟩), .int .i64 pn, .int .i64 pc] wx fun e w' => ∃ V, Hid (V = .agg fr0.cells) ∧ e = .returned (.tuple #[V, .bool false]) ∧ ∃ F', Sf w w' w1.heap.size F' X os v l) := Lib.hid (fun wx F os v h => (sf_next h pn pc).mono (fun e w' hh => by rw [hp] at hh; exact ⟨_, Lib.hid rfl, hh⟩))
            clear hp hpF
            all_goals
              go_wp2_with (first
                | (go_at_call 11; have T0 := T2.out; clear T0 T2; refine (PN.out _).mono ?_; rintro e wm ⟨rfl, rfl⟩)
                | (go_at_call 11; refine (PC.out _).mono ?_; rintro e wm ⟨rfl, rfl⟩)
                | (go_at_call 16; refine (NX.out _ _ _ _ H.out).mono ?_; rintro e wn ⟨V, HV, rfl, F2, H2⟩; clear H; have H := Lib.hid H2; clear H2)
                | (refine wpList_store_new rfl _ _ rfl fr0 OZ.out _ (by rfl) (by rfl) (by exact HV.out) ?_; have H2 := H.out.frame fr0; clear H HV; have H := Lib.hid H2; clear H2; generalize wn.alloc (.cells fr0.cells 35) = wq at H ⊢))
              go_roundw
              case rel => exact ⟨k + 1, X, A, l, F2, hlt1, hlt2, by simp, rfl, rfl, Lib.hid (HS.out.none (H.out.sub (os' := []) (by simp)))⟩
              case measure => simp [intOf]; omega
          | some pp =>
            obtain ⟨s, fin, hR, hN, hO⟩ := next_frame HS.out.sf.ok HS.out.all hp rn1
            obtain ⟨o, t⟩ := pp
            have NX : Hid (∀ (wx : World) (F : Nat → Prop) (os : List (Nat × Obj)) (v : Value), Sf w wx w1.heap.size F X os v l → Calls Try.prog 16 #[.pointer (some ⟨w1.heap.size, 0, none⟩), .int .i64 pn, .int .i64 pc] wx fun e w' => ∃ V, Hid (V = .agg (mkFr 8 o s fin).cells) ∧ e = .returned (.tuple #[V, .bool true]) ∧ ∃ F', Sf w w' w1.heap.size F' (X.nextX (some (o, t))) os v l) := Lib.hid (fun wx F os v h => (sf_next h pn pc).mono (fun e w' hh => by rw [hp, hR] at hh; exact ⟨_, Lib.hid rfl, hh⟩))
            have HNX : Hid (∀ (w' : World) (F' : Nat → Prop) (v' : Value), Sf w w' w1.heap.size F' (X.nextX (some (o, t))) [] v' (l ++ [mkFr 8 o s fin]) → FrSt w w' w1.heap.size (k + 1) F' (X.nextX (some (o, t))) A [] v' (l ++ [mkFr 8 o s fin])) := Lib.hid (fun w' F' v' h2 => HS.out.next hp hO h2)
            obtain ⟨z1, z2, z3, z4, z5, z6⟩ := hN
            simp only [] at z1 z2 z3 z4 z5 z6
            generalize t - o = m at *
            subst z1
            have ON : Hid ((mkFr 8 o s fin).cells.all (·.oneCell') = true) := Lib.hid (one35 _ _ _ _)
            have HXF : Hid ((X.nextX (some (o, t))).fin = X.fin) := Lib.hid rfl
            generalize X.nextX (some (o, t)) = X2 at *
            have FV : Hid ((mkFr 8 o s fin).off = (o : Int) ∧ (mkFr 8 o s fin).s = s ∧ (mkFr 8 o s fin).fin = fin) := Lib.hid ⟨rfl, rfl, rfl⟩
            generalize mkFr 8 (o : Int) s fin = f at *
            have g1 : decide ((o : Int) < 0) = false := decide_eq_false (by omega)
            have g2 : decide (A.size < o) = false := decide_eq_false (by omega)
            have g3 : decide (pn < (s.size : Int)) = false := decide_eq_false (by omega)
            have g4 : decide ((A.size : Int) - o < (s.size : Int)) = false := decide_eq_false (by omega)
            have k1 : IntKind.i64.wrap ((A.size : Int) - (o : Int)) = (A.size : Int) - (o : Int) := IntWalk.i64_in _ (by omega)
            have k2 : IntKind.i64.wrap ((o : Int) + (s.size : Int)) = (o : Int) + (s.size : Int) := IntWalk.i64_in _ (by omega)
            have k3 : ((o : Int) + (s.size : Int)).toNat = o + s.size := by omega
            have k4 : 0 ≤ (o : Int) + (s.size : Int) := by omega
            have k5 : (o : Int) ≤ (o : Int) + (s.size : Int) := by omega
            have k6 : (o : Int) + (s.size : Int) ≤ (A.size : Int) := by omega
            have k7 : o ≤ o + s.size := by omega
            have K1 := Lib.hid k1
            have K2 := Lib.hid k2
            have K3 := Lib.hid k3
            clear k1 k2 k3
            have HCS : Hid ((fin = true ∧ s.size = 0) ∨ (fin = true ∧ 0 < s.size) ∨ (fin = false ∧ 0 < s.size)) := Lib.hid (by
              rcases Nat.eq_zero_or_pos s.size with e | e
              · exact .inl ⟨z6 e, e⟩
              · cases fin
                · exact .inr (.inr ⟨rfl, e⟩)
                · exact .inr (.inl ⟨rfl, e⟩))
            have Z5 := Lib.hid z5
            clear hp hR hO z6 z5 hpF
            have HL : Hid (l.length ≤ 2000) := Lib.hid (by omega)
            go_upto_region 34 with (first
              | (go_at_call 11; have T0 := T2.out; clear T0 T2; refine (PN.out _).mono ?_; rintro e wm ⟨rfl, rfl⟩)
              | (go_at_call 11; refine (PC.out _).mono ?_; rintro e wm ⟨rfl, rfl⟩)
              | (go_at_call 16; refine (NX.out _ _ _ _ H.out).mono ?_; rintro e wn ⟨V, HV, rfl, F2, H2⟩; clear H; have H := Lib.hid H2; clear H2)
              | (refine wpList_store_new rfl _ _ rfl f ON.out _ (by rfl) (by rfl) (by exact HV.out) ?_; have H2 := H.out.frame f; clear H HV; have H := Lib.hid H2; clear H2; have DF := Boxed.of (H.out.fr (List.mem_cons_self ..)); obtain ⟨f0, f2, f3, f4⟩ := DF; rw [FV.out.1] at f2; rw [FV.out.2.1] at f3; rw [FV.out.2.2] at f4; generalize wn.alloc (.cells f.cells 35) = wq at *))
            clear NX PN PC f0
            obtain ⟨bf, hbf⟩ : ∃ bf, X.fin = bf := ⟨_, rfl⟩
            rw [hbf]
            have HBF := Lib.hid hbf
            clear hbf
            go_cut [192] from 30 to 200 (fun s w' => s = .bool false ∧ w' = wq.drew)
            case first =>
              have k1 := K1.out
              have k2 := K2.out
              have k3 := K3.out
              clear K1 K2 K3 HNX HL HS HZ HRZ HX4 ONE PK w1w H HXF FV d0 d1 d2 d3 d4
              rcases HCS.out with ⟨hf1, hf2⟩ | ⟨hf1, hf2⟩ | ⟨hf1, hf2⟩
              all_goals subst hf1
              · have he : s.toList.isEmpty = true := str_empty hf2
                obtain ⟨y1, y2⟩ := Z5.out rfl
                have g5 : (((o : Int) + (s.size : Int)) != (A.size : Int)) = false := by simp; omega
                obtain rfl : bf = true := by rw [← HBF.out]; exact y1
                clear y1 y2 hf2 Z5 HCS HBF
                as_aux_lemma =>
                  refine wp_region_still_lit (by kernel_rfl) (by kernel_rfl) ?_
                  simp only [List.append_eq, List.cons_append, List.nil_append]
                  repeat ((with_reducible refine wpStill_step (fun K hK => ?_)); go_simp; (first | (with_reducible refine hK _ ?_) | ((refine if_no ?hno ?_); (case hno => nofun); (with_reducible refine hK _ ?_))); clear hK K)
                  with_reducible refine wpStill_nil ?_
                  go_wp2
                  go_meet
                  exact ⟨rfl, rfl⟩
              · have he : s.toList.isEmpty = false := str_ne' hf2
                obtain ⟨y1, y2⟩ := Z5.out rfl
                have g5 : (((o : Int) + (s.size : Int)) != (A.size : Int)) = false := by simp; omega
                obtain rfl : bf = true := by rw [← HBF.out]; exact y1
                clear y1 y2 hf2 Z5 HCS HBF
                as_aux_lemma =>
                  refine wp_region_still_lit (by kernel_rfl) (by kernel_rfl) ?_
                  simp only [List.append_eq, List.cons_append, List.nil_append]
                  repeat ((with_reducible refine wpStill_step (fun K hK => ?_)); go_simp; (first | (with_reducible refine hK _ ?_) | ((refine if_no ?hno ?_); (case hno => nofun); (with_reducible refine hK _ ?_))); clear hK K)
                  with_reducible refine wpStill_nil ?_
                  go_wp2
                  go_meet
                  exact ⟨rfl, rfl⟩
              · have he : s.toList.isEmpty = false := str_ne' hf2
                clear hf2 Z5 HCS
                as_aux_lemma =>
                  refine wp_region_still_lit (by kernel_rfl) (by kernel_rfl) ?_
                  simp only [List.append_eq, List.cons_append, List.nil_append]
                  repeat ((with_reducible refine wpStill_step (fun K hK => ?_)); go_simp; (first | (with_reducible refine hK _ ?_) | ((refine if_no ?hno ?_); (case hno => nofun); (with_reducible refine hK _ ?_))); clear hK K)
                  with_reducible refine wpStill_nil ?_
                  go_wp2
                  go_meet
                  exact ⟨rfl, rfl⟩
            case rest =>
            obtain ⟨rfl, rfl⟩ := hcut
            clear K1 K2 K3 HCS Z5 f2 f3 f4 d0 d1 d2 d3 d4 g1 g2 g3 g4 k4 k5 k6 k7
            have H2 := H.out.drew
            clear H
            have H := Lib.hid H2
            clear H2
            generalize wq.drew = wy at H ⊢
            go_wp2_with (first
              | (refine wpList_load_own rfl _ rfl f wn.heap.size rfl (H.out.fr (by simp)) ?_)
              | (refine wpList_build_fr rfl _ rfl f rfl ?_; have H2 := H.out.frame f; clear H; have H := Lib.hid H2; clear H2; have HG := Lib.hid (heap_alloc_new wy (.cells f.cells 35)); generalize wy.alloc (.cells f.cells 35) = wb at H HG ⊢)
              | (refine wpList_append_fr rfl _ _ rfl H.out rfl f ON.out wy.heap.size rfl HG.out HL.out ?_; intro v2 w2 H2; clear H; have H := Lib.hid H2; clear H2))
            go_roundw
            case rel => exact ⟨k + 1, X2, A, l ++ [f], _, hlt1, hlt2, by simp, rfl, by rw [HXF.out, HBF.out], Lib.hid (HNX.out _ _ _ (H.out.sub (os' := []) (by simp)))⟩
            case measure => simp [intOf]; omega
      · as_aux_lemma =>
          go_wp2_with (first
            | (go_at_call 15; refine (sf_finish H.out).mono ?_; rintro e wf ⟨rfl, F2, H2⟩; clear H; have H := Lib.hid H2; clear H2))
          go_roundw
          case rel => exact ⟨k + 1, _, A, l, F2, hlt1, hlt2, by simp, rfl, rfl, Lib.hid (HS.out.finish (H.out.sub (os' := []) (by simp)))⟩
          case measure => simp [intOf]; omega
      · as_aux_lemma =>
          have b0 : (q == 0) = false := by rcases hq with rfl | rfl <;> rfl
          have b1 : (q == 1) = false := by rcases hq with rfl | rfl <;> rfl
          have b2 : (q == 2) = false := by rcases hq with rfl | rfl <;> rfl
          have b3 : (q == 3) = false := by rcases hq with rfl | rfl <;> rfl
          have b4 : (q == 4) = false := by rcases hq with rfl | rfl <;> rfl
          have b7 : (q == 7) = false := by rcases hq with rfl | rfl <;> rfl
          by_cases h0 : l.length = 0
          · have hb : ((l.length : Int) == 0) = true := by rw [h0]; rfl
            clear h0
            go_wp2
            go_roundw
            case rel => exact ⟨k + 1, X, A, l, F, hlt1, hlt2, by simp, rfl, rfl, Lib.hid (HS.out.none (H.out.sub (os' := []) (by simp)))⟩
            case measure => simp [intOf]; omega
          · have hb : ((l.length : Int) == 0) = false := by rw [beq_eq_false_iff_ne]; omega
            have PW := Lib.hid (fun (wx : World) => pick_any c.which l.length wx w1w.lo w1w.hi (by omega) (by omega))
            have rw_ := pickF_range c.which l.length (by omega)
            generalize pickF c.which (l.length : Int) = pw at *
            obtain ⟨m, rfl⟩ : ∃ m : Nat, pw = m := ⟨pw.toNat, by omega⟩
            have hm : m < l.length := by omega
            obtain ⟨f, hf⟩ : ∃ f, l[m]? = some f := ⟨_, List.getElem?_eq_getElem hm⟩
            have hO := HS.out.ok f (List.mem_of_getElem? hf)
            obtain ⟨g, hg⟩ : ∃ g, va = some ⟨g, 0, none⟩ := by
              obtain ⟨g', cap', e, _, _⟩ := H.out.elem hf
              simp only [Value.slice.injEq] at e
              exact ⟨g', e.1⟩
            subst hg
            have HF := Lib.hid hf
            have ON := Lib.hid hO.one
            have ER := Lib.hid hO.err
            clear hf hO h0 rw_
            rcases hq with rfl | rfl
            · go_wp2_with (first
                | (go_at_call 11; have T0 := T2.out; clear T0 T2; refine (PW.out _).mono ?_; rintro e wm ⟨rfl, rfl⟩)
                | (refine wpList_load_fr rfl _ rfl f g (m * 13) (by rfl) (H.out.at HF.out) ?_)
                | (refine wpList_store_new rfl _ _ rfl f ON.out _ (by rfl) (by rfl) (by rfl) ?_; have H2 := H.out.frame f; clear H; have H := Lib.hid H2; clear H2; have dd : (wx.alloc (.cells f.cells 35)).cell? ⟨wr.heap.size, 0, none⟩ = some (.int .i64 c.kind) := (CpBox.of (H.out.far (wr.heap.size, cpO c) (by exact List.mem_cons_of_mem _ (List.mem_cons_self ..))).1).d0; have hgf := Lib.hid (H.out.fr (g := wx.heap.size) (f := f) (List.mem_cons_self ..)); clear d0; generalize hNX : wx.heap.size = nx at *; clear hNX; generalize wx.alloc (.cells f.cells 35) = wz at *)
                | (go_at_call 11; refine (PK.out _).mono ?_; rintro e wm ⟨rfl, rfl⟩)
                | (refine wpList_load_own rfl _ rfl f nx rfl hgf.out ?_)
                | (go_at_call 18; refine (sf_acked H.out f).mono ?_; rintro e wa ⟨e1, F2, H2⟩; rw [ER.out] at e1; subst e1; clear H; have H := Lib.hid H2; clear H2))
              go_roundw
              case rel => exact ⟨k + 1, X.acked f, A, l, F2, hlt1, hlt2, by simp, rfl, by rw [acked_fin], Lib.hid (HS.out.acked f (H.out.sub (os' := []) (by simp)))⟩
              case measure => simp [intOf]; omega
            · go_wp2_with (first
                | (go_at_call 11; have T0 := T2.out; clear T0 T2; refine (PW.out _).mono ?_; rintro e wm ⟨rfl, rfl⟩)
                | (refine wpList_load_fr rfl _ rfl f g (m * 13) (by rfl) (H.out.at HF.out) ?_)
                | (refine wpList_store_new rfl _ _ rfl f ON.out _ (by rfl) (by rfl) (by rfl) ?_; have H2 := H.out.frame f; clear H; have H := Lib.hid H2; clear H2; have dd : (wx.alloc (.cells f.cells 35)).cell? ⟨wr.heap.size, 0, none⟩ = some (.int .i64 c.kind) := (CpBox.of (H.out.far (wr.heap.size, cpO c) (by exact List.mem_cons_of_mem _ (List.mem_cons_self ..))).1).d0; have hgf := Lib.hid (H.out.fr (g := wx.heap.size) (f := f) (List.mem_cons_self ..)); clear d0; generalize hNX : wx.heap.size = nx at *; clear hNX; generalize wx.alloc (.cells f.cells 35) = wz at *)
                | (go_at_call 11; refine (PK.out _).mono ?_; rintro e wm ⟨rfl, rfl⟩)
                | (refine wpList_load_own rfl _ rfl f nx rfl hgf.out ?_)
                | (go_at_call 17; refine (sf_lost H.out f).mono ?_; rintro e wa ⟨e1, F2, H2⟩; rw [ER.out] at e1; subst e1; clear H; have H := Lib.hid H2; clear H2))
              go_roundw
              case rel => exact ⟨k + 1, X.lost f, A, l, F2, hlt1, hlt2, by simp, rfl, by rw [lost_fin], Lib.hid (HS.out.lost f (H.out.sub (os' := []) (by simp)))⟩
              case measure => simp [intOf]; omega
    · as_aux_lemma =>
        have hcase2 : (k < cl.length ∧ 50 ≤ k) ∨ cl.length ≤ k := by omega
        clear hlt
        have hA : X.S.length = A.size := by rw [← HS.out.all, bytesOf_length]
        have hsn : X.sent ≤ A.size := by have := X.sent_le; have := HS.out.sf.ok.len; omega
        have WR : Hid (∀ (wx : World) (F : Nat → Prop) (os : List (Nat × Obj)) (v : Value), Sf w wx w1.heap.size F X os v l → Calls Try.prog 20 #[.pointer (some ⟨w1.heap.size, 0, none⟩)] wx fun e w' => e = .returned (.int .i64 A.size) ∧ ∃ F', Sf w w' w1.heap.size F' X os v l) := Lib.hid (fun wx F os v h => (sf_written h).mono (fun e w' hh => by rw [hA] at hh; obtain ⟨he, n, rfl⟩ := hh; exact ⟨he, _, h.drewN n⟩))
        have SE : Hid (∀ (wx : World) (F : Nat → Prop) (os : List (Nat × Obj)) (v : Value), Sf w wx w1.heap.size F X os v l → Calls Try.prog 21 #[.pointer (some ⟨w1.heap.size, 0, none⟩)] wx fun e w' => e = .returned (.int .i64 X.sent) ∧ wx = w') := Lib.hid (fun wx F os v h => sf_sent h)
        generalize X.sent = sn at *
        have g1 : decide (0 ≤ (sn : Int)) = true := decide_eq_true (by omega)
        have g2 : decide (sn ≤ A.size) = true := decide_eq_true hsn
        have g3 : decide ((sn : Int) ≤ (A.size : Int)) = true := decide_eq_true (by omega)
        clear hA
        rcases hcase2 with ⟨hc1, hc2⟩ | hc1
        all_goals
          go_wp2_with (first
            | (go_at_call 20; refine (WR.out _ _ _ _ H.out).mono ?_; rintro e ws ⟨rfl, F2, H2⟩; clear H; have H := Lib.hid H2; clear H2)
            | (go_at_call 21; refine (SE.out _ _ _ _ H.out).mono ?_; rintro e ws ⟨rfl, rfl⟩))
          go_ret
          exact ⟨rfl, H.out.below⟩
theorem main {H : Type} {enc : TypeId × Value → H} (W : World) (base0 : Nat) (v0 : Value) (d0 : DataW H) (p0 : List MemPlace) (hv0 : Value.okWide Try.prog W .any base0 3 v0) (h0 : DataW.Trod enc Try.prog W 0 (fun _ => true) true 3 v0 d0 p0)
    (base1 : Nat) (v1 : Value) (d1 : DataW H) (p1 : List MemPlace) (hv1 : Value.okWide Try.prog W .any base1 41 v1) (h1 : DataW.Trod enc Try.prog W 0 (fun _ => true) true 41 v1 d1 p1) :
    Calls Try.prog 4 #[v0, v1] W fun e w' => e = .returned (.bool true) ∧ Below W.heap.size W w' := by
  obtain ⟨a0, rfl, _, _, w0⟩ := open_int Try.underlying3 hv0 h0
  obtain ⟨cl, hz, hmz, hrz⟩ := cps_at hv1 h1
  obtain ⟨a2, cap2, rfl⟩ := hz.form
  exact walk a0 cl a2 cap2 W (bounds_i64 w0) hz hmz hrz
end Go.Proofs.Ytmjekepiplibkaa.sendBufFrames
