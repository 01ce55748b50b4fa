/- A buffer and the reference's side by side. -/
import Derived.Test.YtmjekepiplibkaaRk
import Derived.Test.YtmjekepiplibkaaRg
namespace Go.Proofs.Ytmjekepiplibkaa
open Go.RowKit
structure Mr (W w : World) (b r : Nat) (F G : Nat → Prop) (X Y : Wh) (os : List (Nat × Obj)) (v : Value) (l : List Fr) : Prop where
  sf : Sf W w b F X os v l
  rr : RInv w r G Y
  yok : Y.Ok
  ro : ∀ k, G k → W.heap.size ≤ k ∧ k < w.heap.size
  dis : ∀ k, F k → ¬ G k
  osg : ∀ p ∈ os, ¬ G p.1
  vg : ∀ k, v.ownBlock = some k → ¬ G k
theorem RInv.chg {w w' : World} {r : Nat} {G H : Nat → Prop} {X : Wh} (h : RInv w r G X) (hc : Chg H w w') (hd : ∀ k, G k → ¬ H k) : RInv w' r G X := by obtain ⟨A, vs, h⟩ := h; exact ⟨A, vs, h.chg hc hd⟩
section
variable {W w w' : World} {b r : Nat} {F G : Nat → Prop} {X X' Y Y' : Wh} {os os' : List (Nat × Obj)} {v : Value} {l : List Fr}
theorem Mr.prog (h : Mr W w b r F G X Y os v l) (hc : Chg F w w') (hi : Inv w' b (Ext F w w') X'.buf) (ho : X'.Ok) : Mr W w' b r (Ext F w w') G X' Y os v l :=
  ⟨h.sf.step hc hi ho, h.rr.chg hc (fun k hk hf => h.dis k hf hk), h.yok, fun k hk => ⟨(h.ro k hk).1, Nat.lt_of_lt_of_le (h.ro k hk).2 hc.size⟩, fun k hk hg => by
    rcases hk with hk | hk
    · exact h.dis k hk hg
    · exact Nat.not_le.2 (h.ro k hg).2 hk.1, h.osg, h.vg⟩
theorem Mr.ref (h : Mr W w b r F G X Y os v l) (hc : Chg G w w') (hr : RInv w' r (Ext G w w') Y') (ho : Y'.Ok) : Mr W w' b r F (Ext G w w') X Y' os v l := by
  have hs := hc.size
  have hbs := h.sf.below.size
  refine ⟨⟨h.sf.inv.chg hc (fun k hk hg => h.dis k hk hg), h.sf.ok, fun k hk => ⟨(h.sf.own k hk).1, Nat.lt_of_lt_of_le (h.sf.own k hk).2 hs⟩, hc.toBelow h.sf.below (fun k hk => (h.ro k hk).1), fun p hp => ⟨hc.heap (h.sf.far p hp).1 (h.osg p hp), (h.sf.far p hp).2⟩, own_same' h.sf.row (fun k hk => hc.block k (own_base' h.sf.row k hk).2 (h.vg k hk)), h.sf.apart⟩, hr, ho, fun k hk => ?_, fun k hk hg => ?_, fun p hp hg => ?_, fun k hk hg => ?_⟩
  · rcases hk with hk | hk
    · have := h.ro k hk; exact ⟨this.1, by omega⟩
    · exact ⟨by omega, hk.2⟩
  · rcases hg with hg | hg
    · exact h.dis k hk hg
    · exact Nat.not_le.2 (h.sf.own k hk).2 hg.1
  · rcases hg with hg | hg
    · exact h.osg p hp hg
    · exact Nat.not_le.2 (heap_lt (h.sf.far p hp).1) hg.1
  · rcases hg with hg | hg
    · exact h.vg k hk hg
    · exact Nat.not_le.2 (own_base' h.sf.row k hk).2 hg.1
theorem Mr.same (h : Mr W w b r F G X Y os v l) (hb : Below w.heap.size w w') : Mr W w' b r F G X Y os v l :=
  ⟨h.sf.same hb, h.rr.below hb, h.yok, fun k hk => ⟨(h.ro k hk).1, Nat.lt_of_lt_of_le (h.ro k hk).2 hb.size⟩, h.dis, h.osg, h.vg⟩
theorem Mr.drewN (h : Mr W w b r F G X Y os v l) (n : Nat) : Mr W (w.drewN n) b r F G X Y os v l := h.same (belowN (Below.refl _ w) n)
theorem Mr.drew (h : Mr W w b r F G X Y os v l) : Mr W w.drew b r F G X Y os v l := h.same ((Below.refl _ w).drew)
theorem Mr.alloc (h : Mr W w b r F G X Y os v l) (o : Obj) : Mr W (w.alloc o) b r F G X Y ((w.heap.size, o) :: os) v l := by
  have hb : Below w.heap.size w (w.alloc o) := (Below.refl _ w).alloc (Nat.le_refl _) _
  have h1 := h.same hb
  refine ⟨h.sf.alloc o, h1.rr, h.yok, h1.ro, h.dis, fun p hp hg => ?_, h.vg⟩
  rcases List.mem_cons.1 hp with rfl | hp
  · exact Nat.lt_irrefl _ (h.ro _ hg).2
  · exact h.osg p hp hg
theorem Mr.sub (h : Mr W w b r F G X Y os v l) (hs : ∀ p ∈ os', p ∈ os) : Mr W w b r F G X Y os' v l := ⟨h.sf.sub hs, h.rr, h.yok, h.ro, h.dis, fun p hp => h.osg p (hs p hp), h.vg⟩
theorem Mr.append {v' : Value} (h : Mr W w b r F G X Y os v l) (f : Fr) (ho : w'.ownsRow W.heap.size 35 13 v' (l.length + 1) (fsCells l ++ f.cells.toList)) (hg : w.grownBy w' v.ownBlock) (hk : ∀ k, v'.ownBlock = some k → v.ownBlock = some k ∨ w.heap.size ≤ k) : Mr W w' b r F G X Y os v' (l ++ [f]) := by
  have hc : Chg (fun k => v.ownBlock = some k) w w' := Chg.grownO hg (fun k e => e)
  refine ⟨h.sf.append f ho hg hk, h.rr.chg hc (fun k hk2 e => h.vg k e hk2), h.yok, fun k hk2 => ⟨(h.ro k hk2).1, Nat.lt_of_lt_of_le (h.ro k hk2).2 hg.size⟩, h.dis, h.osg, fun k hk2 hgk => ?_⟩
  rcases hk k hk2 with e | e
  · exact h.vg k e hgk
  · exact Nat.not_le.2 (h.ro k hgk).2 e
theorem Mr.glt (h : Mr W w b r F G X Y os v l) : ∀ k, G k → k < w.heap.size := fun k hk => (h.ro k hk).2
theorem Mr.row13 (h : Mr W w b r F G X Y os v l) (_hl : l.length ≤ 2000) : Row13 w v l := by
  obtain ⟨a, cap, e, hn⟩ := own_form h.sf.row
  have hcap : cap ≤ 9223372036854775807 := by
    rcases h.sf.row.2 with ⟨e2, _⟩ | ⟨g, cap', cur, e2, hb, hg, hn, hc, hs, ht⟩
    · rw [e] at e2; simp only [Value.slice.injEq] at e2; omega
    · rw [e] at e2; simp only [Value.slice.injEq] at e2; unfold maxLen at hc; omega
  refine ⟨a, cap, e, hn, hcap, fun k f hk => ?_⟩
  obtain ⟨g, cap', e2, _, hr⟩ := h.sf.elem hk
  rw [e] at e2
  simp only [Value.slice.injEq] at e2
  exact ⟨g, e2.1, hr⟩
theorem Mr.fr {g : Nat} {f : Fr} (h : Mr W w b r F G X Y os v l) (hm : (g, frO f) ∈ os) : w.heap[g]? = some (.cells f.cells 35 (0, 0)) := (h.sf.far _ hm).1
theorem Mr.range {g : Nat} {f : Fr} (h : Mr W w b r F G X Y os v l) (hm : (g, frO f) ∈ os) : w.rangeAt g 0 f.cells.toList := fun j u hu => by rw [Nat.zero_add, cell_whole (h.fr hm)]; simpa using hu
/-! the program's calls -/
theorem mr_write (h : Mr W w b r F G X Y os v l) (s : ByteArray) (hs : s.size ≤ maxLen) (hf : X.S.length + X.writeN s ≤ 1125899906842624) :
    Calls Try.prog 14 #[.pointer (some ⟨b, 0, none⟩), .string s] w fun e w' => e = .returned (.int .i64 (X.writeN s : Int)) ∧ ∃ F', Mr W w' b r F' G (X.write s) Y os v l := by
  refine (write_any b F X.buf s w h.sf.inv h.sf.ok.good hs).mono fun _ _ hh => ?_
  rw [Wh.writeN_buf h.sf.ok, Wh.write_buf h.sf.ok] at hh
  exact ⟨hh.1, _, h.prog hh.2.1 hh.2.2 (h.sf.ok.write s hf)⟩
theorem mr_next (h : Mr W w b r F G X Y os v l) (most credit : Int) :
    Calls Try.prog 16 #[.pointer (some ⟨b, 0, none⟩), .int .i64 most, .int .i64 credit] w fun e w' => e = .returned (.tuple #[(X.nextR (X.nextP most credit)).val, .bool (X.nextP most credit).isSome]) ∧ ∃ F', Mr W w' b r F' G (X.nextX (X.nextP most credit)) Y os v l := by
  refine (next_any b F X.buf most credit w h.sf.inv h.sf.ok.good).mono fun _ _ hh => ?_
  unfold NextPost nextE at hh
  rw [Wh.nextR_buf h.sf.ok, Wh.nextX_buf h.sf.ok, Wh.isSome_buf h.sf.ok] at hh
  exact ⟨hh.1, _, h.prog hh.2.1 hh.2.2 (h.sf.ok.next most credit)⟩
theorem mr_lost (h : Mr W w b r F G X Y os v l) (f : Fr) :
    Calls Try.prog 17 #[.pointer (some ⟨b, 0, none⟩), f.val] w fun e w' => e = .returned (.int .i64 (X.err f)) ∧ ∃ F', Mr W w' b r F' G (X.lost f) Y os v l := by
  refine (lost_any b F X.buf f w h.sf.inv h.sf.ok.good).mono fun _ _ hh => ?_
  have h2 := hh.2.2
  have e3 := Wh.err_buf h.sf.ok f
  have e4 := Wh.lost_buf h.sf.ok f
  exact ⟨by rw [← e3]; exact hh.1, _, h.prog hh.2.1 (by rw [← e4]; exact h2) (h.sf.ok.lost f)⟩
theorem mr_acked (h : Mr W w b r F G X Y os v l) (f : Fr) :
    Calls Try.prog 18 #[.pointer (some ⟨b, 0, none⟩), f.val] w fun e w' => e = .returned (.int .i64 (X.err f)) ∧ ∃ F', Mr W w' b r F' G (X.acked f) Y os v l := by
  refine (acked_any b F X.buf f w h.sf.inv h.sf.ok.good).mono fun _ _ hh => ?_
  have e3 := Wh.err_buf h.sf.ok f
  have e4 := Wh.acked_buf h.sf.ok f
  exact ⟨by rw [← e3]; exact hh.1, _, h.prog hh.2.1 (by rw [← e4]; exact hh.2.2) (h.sf.ok.acked f)⟩
theorem mr_finish (h : Mr W w b r F G X Y os v l) :
    Calls Try.prog 15 #[.pointer (some ⟨b, 0, none⟩)] w fun e w' => e = .returned (.tuple #[]) ∧ ∃ F', Mr W w' b r F' G ({ X with fin := true } : Wh) Y os v l :=
  (finish_any b F X.buf w h.sf.inv).mono fun _ _ hh => ⟨hh.1, _, h.prog hh.2.1 (hh.2.2.1.ext (fun _k hk => .inl hk)) h.sf.ok.finish⟩
/-! the reference's calls -/
theorem mr_rwrite (h : Mr W w b r F G X Y os v l) (s : ByteArray) (hs : s.size ≤ 100) (hf : Y.S.length ≤ 100000) :
    Calls Try.prog 24 #[.pointer (some ⟨r, 0, none⟩), .string s] w fun e w' => e = .returned (.int .i64 (Y.writeN s : Int)) ∧ ∃ G', Mr W w' b r F G' X (Y.write s) os v l :=
  (rwrite_any r G Y s w h.rr h.yok hs hf).mono fun _ _ hh => ⟨hh.1, _, h.ref hh.2.1 hh.2.2 (h.yok.write s (by have := (Y.writeN_le s).1; omega))⟩
theorem mr_rnext (h : Mr W w b r F G X Y os v l) (most credit : Int) :
    Calls Try.prog 25 #[.pointer (some ⟨r, 0, none⟩), .int .i64 most, .int .i64 credit] w fun e w' => e = .returned (.tuple #[(Y.nextR (Y.nextP most credit)).val, .bool (Y.nextP most credit).isSome]) ∧ ∃ G', Mr W w' b r F G' X (Y.nextX (Y.nextP most credit)) os v l :=
  (rnext_any r G Y most credit w h.rr h.yok h.glt).mono fun _ _ hh => by
    unfold RNextPost rnextE at hh
    exact ⟨hh.1, _, h.ref hh.2.1 hh.2.2 (h.yok.next most credit)⟩
theorem mr_rlost (h : Mr W w b r F G X Y os v l) (f : Fr) :
    Calls Try.prog 28 #[.pointer (some ⟨r, 0, none⟩), f.val] w fun e w' => e = .returned (.int .i64 (Y.err f)) ∧ ∃ G', Mr W w' b r F G' X (Y.lost f) os v l :=
  (rlost_any r G Y f w h.rr h.yok h.glt).mono fun _ _ hh => ⟨hh.1, _, h.ref hh.2.1 (hh.2.2.ext (fun _k hk => .inl hk)) (h.yok.lost f)⟩
theorem mr_racked (h : Mr W w b r F G X Y os v l) (f : Fr) :
    Calls Try.prog 27 #[.pointer (some ⟨r, 0, none⟩), f.val] w fun e w' => e = .returned (.int .i64 (Y.err f)) ∧ ∃ G', Mr W w' b r F G' X (Y.acked f) os v l :=
  (racked_any r G Y f w h.rr h.yok h.glt).mono fun _ _ hh => ⟨hh.1, _, h.ref hh.2.1 (hh.2.2.ext (fun _k hk => .inl hk)) (h.yok.acked f)⟩
theorem mr_same (h : Mr W w b r F G X X os v l) :
    Calls Try.prog 29 #[.pointer (some ⟨b, 0, none⟩), .pointer (some ⟨r, 0, none⟩)] w fun e w' => e = .returned (.bool true) ∧ Mr W w' b r F G X X os v l :=
  (same_any b r F G X w h.sf.inv h.sf.ok h.rr).mono fun _ _ hh => ⟨hh.1, by obtain ⟨n, e⟩ := hh.2; rw [e]; exact h.drewN n⟩
end
theorem rnew_ok (n : Int) (w : World) (h1 : 1 ≤ n) (h2 : n ≤ 8192) :
    Calls Try.prog 22 #[.int .i64 n] w fun e w' => e = .returned (.tuple #[.pointer (some ⟨w.heap.size, 0, none⟩), .int .i64 0]) ∧ w' = w.alloc (.cells (rcells (newX n) ⟨#[]⟩ (.slice none 0 0)) 54) := by
  go_enter Try.func22, Try.ntmps22
  go_wp2
  go_returns
  exact ⟨rfl, rfl⟩
theorem rnew_no (n : Int) (w : World) (h : ¬ (1 ≤ n ∧ n ≤ 8192)) :
    Calls Try.prog 22 #[.int .i64 n] w fun e w' => e = .returned (.tuple #[.pointer none, .int .i64 2]) ∧ w' = w := by
  by_cases h1 : 1 ≤ n
  all_goals
    have h2 : n < 1 ∨ 8192 < n := by omega
    first | have h2 : n < 1 := by omega | have h2 : 8192 < n := by omega
    go_enter Try.func22, Try.ntmps22
    go_wp2
    go_returns
    exact ⟨rfl, rfl⟩
theorem rnew_inv (n : Int) (w : World) : RInv (w.alloc (.cells (rcells (newX n) ⟨#[]⟩ (.slice none 0 0)) 54)) w.heap.size (fun k => k = w.heap.size) (newX n) :=
  ⟨⟨#[]⟩, .slice none 0 0, heap_alloc_new w _, World.ownsRow_nil _ _ _ _, rfl, (fun k hk => by cases hk), rfl⟩
theorem mr_new {W w : World} {b : Nat} {F : Nat → Prop} (n : Int) (h1 : 1 ≤ n) (h2 : n ≤ 8192) (h : Sf W w b F (newX n) [] (.slice none 0 0) []) :
    Calls Try.prog 22 #[.int .i64 n] w fun e w' => e = .returned (.tuple #[.pointer (some ⟨w.heap.size, 0, none⟩), .int .i64 0]) ∧ Mr W w' b w.heap.size F (fun k => k = w.heap.size) (newX n) (newX n) [] (.slice none 0 0) [] :=
  (rnew_ok n w h1 h2).mono fun e w' hh => ⟨hh.1, by
    rw [hh.2]
    exact ⟨(h.alloc _).sub (by simp), rnew_inv n w, newX_ok n h1 h2, fun k hk => by subst hk; exact ⟨h.below.size, by simp⟩, fun k hk e => Nat.lt_irrefl _ (e ▸ (h.own k hk).2), fun p hp => by simp at hp, fun k hk => by cases hk⟩⟩
end Go.Proofs.Ytmjekepiplibkaa
