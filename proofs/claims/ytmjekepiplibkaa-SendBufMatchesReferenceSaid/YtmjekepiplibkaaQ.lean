import Derived.Test.YtmjekepiplibkaaP
namespace Go.Proofs.Ytmjekepiplibkaa
open Go.RowKit
theorem write_nil (s : ByteArray) (w : World) (hs : 0 < s.size) :
    Calls Try.prog 14 #[.pointer none, .string s] w fun e w' => e = .returned (.int .i64 0) ∧ Below w.heap.size w w' := by
  have SP := Lib.hid (space_nil w)
  go_enter Try.func14, Try.ntmps14
  go_wp2_with (go_at_call 19; refine SP.out.mono ?_; rintro e w' ⟨rfl, m, rfl⟩)
  all_goals go_ret
  exact ⟨rfl, belowN (Below.refl _ w) m⟩
/-- a buffer of the call's own, and frames that lie beside it -/
structure St (W w : World) (b : Nat) (F : Nat → Prop) (B : Bf) (fs : List (Nat × Fr)) : Prop where
  inv : Inv w b F B
  own : ∀ k, F k → W.heap.size ≤ k ∧ k < w.heap.size
  below : Below W.heap.size W w
  far : ∀ p ∈ fs, w.heap[p.1]? = some (.cells p.2.cells 35 (0, 0)) ∧ ¬ F p.1
theorem St.step {W w w' : World} {b : Nat} {F : Nat → Prop} {B B' : Bf} {fs : List (Nat × Fr)} (h : St W w b F B fs) (hc : Chg F w w') (hi : Inv w' b (Ext F w w') B') : St W w' b (Ext F w w') B' fs := by
  have hs := hc.size
  have hbs := h.below.size
  refine ⟨hi, fun k hk => ?_, hc.toBelow h.below (fun k hk => (h.own k hk).1), fun p hp => ⟨hc.heap (h.far p hp).1 (h.far p hp).2, fun hk => ?_⟩⟩
  · rcases hk with hk | hk
    · have := h.own k hk; exact ⟨this.1, by omega⟩
    · exact ⟨by omega, hk.2⟩
  · rcases hk with hk | hk
    · exact (h.far p hp).2 hk
    · exact Nat.not_le.2 (heap_lt (h.far p hp).1) hk.1
/-- whatever only adds blocks -/
theorem St.same {W w w' : World} {b : Nat} {F : Nat → Prop} {B : Bf} {fs : List (Nat × Fr)} (h : St W w b F B fs) (hb : Below w.heap.size w w') : St W w' b F B fs :=
  ⟨h.inv.below hb, fun k hk => ⟨(h.own k hk).1, Nat.lt_of_lt_of_le (h.own k hk).2 hb.size⟩, h.below.trans (hb.mono h.below.size), fun p hp => ⟨heap_below hb (h.far p hp).1, (h.far p hp).2⟩⟩
theorem St.drewN {W w : World} {b : Nat} {F : Nat → Prop} {B : Bf} {fs : List (Nat × Fr)} (h : St W w b F B fs) (n : Nat) : St W (w.drewN n) b F B fs := h.same (belowN (Below.refl _ w) n)
theorem St.frame {W w : World} {b : Nat} {F : Nat → Prop} {B : Bf} {fs : List (Nat × Fr)} (h : St W w b F B fs) (f : Fr) : St W (w.alloc (.cells f.cells 35)) b F B ((w.heap.size, f) :: fs) := by
  have h1 := h.same (show Below w.heap.size w (w.alloc (.cells f.cells 35)) from (Below.refl _ w).alloc (Nat.le_refl _) _)
  refine ⟨h1.inv, h1.own, h1.below, fun p hp => ?_⟩
  rcases List.mem_cons.1 hp with rfl | hp
  · exact ⟨heap_alloc_new w _, fun hk => Nat.lt_irrefl _ (h.own _ hk).2⟩
  · exact h1.far p hp
def ackB (B : Bf) (f : Fr) : Bf := if fitsF B f then ackedB B f else B
def lostB (B : Bf) (f : Fr) : Bf := if fitsF B f then markB false B f else B
def ackE (B : Bf) (f : Fr) : Int := if fitsF B f then 0 else 170
theorem st_new (n : Int) (W w : World) (hb : Below W.heap.size W w) : St W (w.alloc (.cells ((newB n).cells (.slice none 0 0) (.slice none 0 0)) 59)) w.heap.size (fun k => k = w.heap.size) (newB n) [] :=
  ⟨⟨_, _, new_rep n w⟩, fun k hk => by subst hk; exact ⟨hb.size, by simp⟩, hb.trans (((Below.refl _ w).alloc (Nat.le_refl _) _).mono hb.size), fun p hp => by cases hp⟩
theorem st_write {W w : World} {b : Nat} {F : Nat → Prop} {B : Bf} {fs : List (Nat × Fr)} (h : St W w b F B fs) (hg : Good B) (s : ByteArray) (hs : s.size ≤ maxLen) :
    Calls Try.prog 14 #[.pointer (some ⟨b, 0, none⟩), .string s] w fun e w' => e = .returned (.int .i64 (writeN B s : Int)) ∧ ∃ F', St W w' b F' (writeF B s) fs :=
  (write_any b F B s w h.inv hg hs).mono fun _ _ hh => ⟨hh.1, _, h.step hh.2.1 hh.2.2⟩
theorem st_next {W w : World} {b : Nat} {F : Nat → Prop} {B : Bf} {fs : List (Nat × Fr)} (h : St W w b F B fs) (hg : Good B) (most credit : Int) :
    Calls Try.prog 16 #[.pointer (some ⟨b, 0, none⟩), .int .i64 most, .int .i64 credit] w fun e w' => e = .returned (.tuple #[(nextR B (nextP B most credit)).val, .bool (nextP B most credit).isSome]) ∧ ∃ F', St W w' b F' (nextB B (nextP B most credit)) fs :=
  (next_any b F B most credit w h.inv hg).mono fun _ _ hh => ⟨hh.1, _, h.step hh.2.1 hh.2.2⟩
theorem st_lost {W w : World} {b : Nat} {F : Nat → Prop} {B : Bf} {fs : List (Nat × Fr)} (h : St W w b F B fs) (hg : Good B) (f : Fr) :
    Calls Try.prog 17 #[.pointer (some ⟨b, 0, none⟩), f.val] w fun e w' => e = .returned (.int .i64 (ackE B f)) ∧ ∃ F', St W w' b F' (lostB B f) fs :=
  (lost_any b F B f w h.inv hg).mono fun _ _ hh => ⟨hh.1, _, h.step hh.2.1 hh.2.2⟩
theorem st_acked {W w : World} {b : Nat} {F : Nat → Prop} {B : Bf} {fs : List (Nat × Fr)} (h : St W w b F B fs) (hg : Good B) (f : Fr) :
    Calls Try.prog 18 #[.pointer (some ⟨b, 0, none⟩), f.val] w fun e w' => e = .returned (.int .i64 (ackE B f)) ∧ ∃ F', St W w' b F' (ackB B f) fs :=
  (acked_any b F B f w h.inv hg).mono fun _ _ hh => ⟨hh.1, _, h.step hh.2.1 hh.2.2⟩
theorem st_space {W w : World} {b : Nat} {F : Nat → Prop} {B : Bf} {fs : List (Nat × Fr)} (h : St W w b F B fs) (hg : Good B) :
    Calls Try.prog 19 #[.pointer (some ⟨b, 0, none⟩)] w fun e w' => e = .returned (.int .i64 (spaceF B)) ∧ ∃ F', St W w' b F' B fs :=
  (space_any b F B w h.inv hg).mono fun _ _ hh => ⟨hh.1, _, by obtain ⟨m, rfl⟩ := hh.2; exact h.drewN m⟩
theorem st_finish {W w : World} {b : Nat} {F : Nat → Prop} {B : Bf} {fs : List (Nat × Fr)} (h : St W w b F B fs) :
    Calls Try.prog 15 #[.pointer (some ⟨b, 0, none⟩)] w fun e w' => e = .returned (.tuple #[]) ∧ ∃ F', St W w' b F' { B with fin := true } fs :=
  (finish_any b F B w h.inv).mono fun _ _ hh => ⟨hh.1, _, h.step hh.2.1 (hh.2.2.1.ext (fun _k hk => .inl hk))⟩
end Go.Proofs.Ytmjekepiplibkaa
