/- Texts FSi FT FU FV FW FX FY FZ FZa FZb FZc of this claim, one behind the other. -/
import Derived.Shelf.SlIterI.Nil
import Derived.Shelf.SlIterI.Sorted
import Derived.Test.YtpfkeohaaeiaaaaGreatDoorProg
import Derived.Test.YtpfkeohaaeiaaaaGreatDoorRc4
import Derived.Test.YtpfkeohaaeiaaaaGreatDoorRc3
import Derived.Deep.AppendLies
import Derived.Test.YtpfkeohaaeiaaaaGreatDoorRc6
import Derived.BigQuiet
import Derived.StillTailTactics
import Derived.WalkSpells
import Derived.Deep.RegionHeld3
/- Law 13: the library's contracts for maps.Keys and slices.Sorted, laid by the kit's shelf_lay_g and lay-plain.mjs (as they print them). -/
namespace Go.Proofs
open Go.Shelf
set_option maxRecDepth 100000
def Tryz.keysL_ren : Go.Shelf.Ren := ⟨fun | 7 => 66 | 10 => 91 | n => n, fun | 23 => 78 | 26 => 3 | 3 => 49 | 28 => 123 | 0 => 0 | 27 => 122 | 33 => 89 | 4 => 4 | n => n, fun | n => n⟩
theorem Tryz.keysL : Go.Proofs.SlLaysZI.n7 Tryz.prog Tryz.keysL_ren := {
  mixed := by kernel_rfl
  f7 := ⟨Tryz.f66.name, by decide, Tryz.func66.trans (congrArg some (by kernel_rfl))⟩
  f10 := ⟨Tryz.f91.name, by decide, Tryz.func91.trans (congrArg some (by kernel_rfl))⟩
  t0 := Tryz.underlying0
  a0 := Tryz.isAgg0
  z0 := Tryz.sizeOf0
  v0 := Tryz.zeroValue0
  t4 := Tryz.underlying4
  a4 := Tryz.isAgg4
  z4 := Tryz.sizeOf4
  v4 := Tryz.zeroValue4
  t23 := Tryz.underlying78
  a23 := Tryz.isAgg78
  z23 := Tryz.sizeOf78
  v23 := Tryz.zeroValue78
  t26 := Tryz.underlying3
  a26 := Tryz.isAgg3
  z26 := Tryz.sizeOf3
  v26 := Tryz.zeroValue3
  t27 := Tryz.underlying122
  a27 := Tryz.isAgg122
  z27 := Tryz.sizeOf122
  v27 := Tryz.zeroValue122
  t28 := Tryz.underlying123
  a28 := Tryz.isAgg123
  z28 := Tryz.sizeOf123
  v28 := Tryz.zeroValue123
  t33 := Tryz.underlying89
  a33 := Tryz.isAgg89
  z33 := Tryz.sizeOf89
  v33 := Tryz.zeroValue89 }
def Tryz.sortedL_ren : Go.Shelf.Ren := ⟨fun | 6 => 65 | 8 => 89 | 9 => 90 | 11 => 119 | 13 => 121 | 12 => 120 | 23 => 158 | 24 => 159 | 14 => 149 | 15 => 150 | 16 => 151 | 17 => 152 | 18 => 153 | 19 => 154 | 20 => 155 | 21 => 156 | 22 => 157 | 25 => 164 | 26 => 165 | 27 => 166 | 28 => 167 | 29 => 168 | 30 => 169 | 31 => 175 | n => n, fun | 26 => 3 | 28 => 123 | 24 => 22 | 0 => 0 | 3 => 3 | 37 => 183 | 48 => 208 | 50 => 210 | 4 => 4 | 40 => 201 | 39 => 200 | 45 => 205 | 5 => 5 | 9 => 9 | 51 => 226 | 55 => 162 | 57 => 238 | 58 => 91 | 33 => 89 | n => n, fun | n => n⟩
theorem Tryz.sortedL : Go.Proofs.SlLaysZI.n6 Tryz.prog Tryz.sortedL_ren := {
  mixed := by kernel_rfl
  f6 := ⟨Tryz.f65.name, by decide, Tryz.func65.trans (congrArg some (by kernel_rfl))⟩
  f8 := ⟨Tryz.f89.name, by decide, Tryz.func89.trans (congrArg some (by kernel_rfl))⟩
  f11 := ⟨Tryz.f119.name, by decide, Tryz.func119.trans (congrArg some (by kernel_rfl))⟩
  t0 := Tryz.underlying0
  a0 := Tryz.isAgg0
  z0 := Tryz.sizeOf0
  v0 := Tryz.zeroValue0
  t24 := Tryz.underlying22
  a24 := Tryz.isAgg22
  z24 := Tryz.sizeOf22
  v24 := Tryz.zeroValue22
  t26 := Tryz.underlying3
  a26 := Tryz.isAgg3
  z26 := Tryz.sizeOf3
  v26 := Tryz.zeroValue3
  t28 := Tryz.underlying123
  a28 := Tryz.isAgg123
  z28 := Tryz.sizeOf123
  v28 := Tryz.zeroValue123
  i26 := by kernel_rfl }
end Go.Proofs
/- Law 13: packets as plain data; a map of packets; its keys, sorted. -/
namespace Go.Proofs.YtpfkeohaaeiaaaaGreatDoor.frm
open Go.RowKit Go.Maps Go.Sort Go.Shelf
set_option maxRecDepth 100000
/-- a packet; fv: what its field Frames holds -/
structure Pk where
  pn : Int
  time : Int
  size : Int
  el : Bool
  fv : Value
def Pk.cells (p : Pk) : Array Value := #[.int .i64 p.pn, .int .i64 p.time, .int .i64 p.size, .bool p.el, p.fv]
def Pk.val (p : Pk) : Value := .agg p.cells
/-- the packets stand in rising order, their numbers are below nx -/
structure Up (nx : Int) (l : List Pk) : Prop where
  inc : l.Pairwise fun p q => p.pn < q.pn
  bnd : ∀ p ∈ l, 0 ≤ p.pn ∧ p.pn < nx
  fvs : ∀ p ∈ l, ∃ a n c, p.fv = .slice a n c
theorem pnWf {x : Int} (h0 : 0 ≤ x) (h1 : x ≤ 281474976710656) : (Lit.int .i64 x).wf = true := by
  have : IntKind.i64.min = -9223372036854775808 := by decide
  have : IntKind.i64.max = 9223372036854775807 := by decide
  simp [Lit.wf]; omega
/-- the map D holds the packets, each under its number -/
structure HoldsPk (D : DataW Value) (l : List Pk) : Prop where
  tidy : Tidy D
  mem : ∀ x : Int, Maps.has D (.int .i64 x) = true ↔ ∃ p ∈ l, p.pn = x
  at_ : ∀ p ∈ l, ∀ z, D.atKey (.int .i64 p.pn) (.held z) = .held p.val
theorem holds_nil : HoldsPk (.map []) [] := ⟨tidy_empty, fun x => by simp [Maps.has], fun p hp => by cases hp⟩
theorem isKey (x : Int) : WideAt.IsKeyLit (.int .i64 x) := by simp [WideAt.IsKeyLit]
theorem HoldsPk.put {D : DataW Value} {l : List Pk} {nx : Int} (h : HoldsPk D l) (hu : Up nx l) (p : Pk) (hp : p.pn = nx) : HoldsPk (D.put (.int .i64 p.pn) (.held p.val)) (l ++ [p]) := by
  refine ⟨h.tidy.put (isKey _) _, fun x => ?_, fun q hq z => ?_⟩
  · by_cases e : x = p.pn
    · subst e
      rw [has_put_same h.tidy.isMap (isKey _)]
      simp
    · rw [has_put_other (fun e2 => e (by cases e2; rfl)), h.mem]
      constructor
      · rintro ⟨q, hq, rfl⟩; exact ⟨q, by simp [hq], rfl⟩
      · rintro ⟨q, hq, rfl⟩
        rcases List.mem_append.1 hq with hq | hq
        · exact ⟨q, hq, rfl⟩
        · exact absurd (by rw [List.mem_singleton.1 hq]) e
  · rcases List.mem_append.1 hq with hq | hq
    · have := hu.bnd q hq
      have hne : Lit.int .i64 q.pn ≠ Lit.int .i64 p.pn := fun e2 => by
        have e3 : q.pn = p.pn := by simpa using e2
        omega
      rw [atKey_put_other hne]
      exact h.at_ q hq z
    · rw [List.mem_singleton.1 hq, atKey_put_same h.tidy.isMap (isKey _)]
theorem HoldsPk.del {D : DataW Value} {l : List Pk} (h : HoldsPk D l) (x : Int) : HoldsPk (D.del (.int .i64 x)) (l.filter fun p => p.pn != x) := by
  refine ⟨h.tidy.del _, fun y => ?_, fun q hq z => ?_⟩
  · by_cases e : y = x
    · subst e
      rw [has_del_same]
      simp
    · rw [has_del_other (fun e2 => e (by cases e2; rfl)), h.mem]
      constructor
      · rintro ⟨q, hq, rfl⟩; exact ⟨q, List.mem_filter.2 ⟨hq, by simpa using e⟩, rfl⟩
      · rintro ⟨q, hq, rfl⟩; exact ⟨q, (List.mem_filter.1 hq).1, rfl⟩
  · obtain ⟨h1, h2⟩ := List.mem_filter.1 hq
    have h2 : q.pn ≠ x := by simpa using h2
    rw [atKey_del_other (fun e2 => h2 (by cases e2; rfl))]
    exact h.at_ q h1 z
theorem Up.app {nx : Int} {l : List Pk} (h : Up nx l) (p : Pk) (hp : p.pn = nx) (h0 : 0 ≤ nx) (hf : ∃ a n c, p.fv = .slice a n c) : Up (nx + 1) (l ++ [p]) := by
  refine ⟨List.pairwise_append.2 ⟨h.inc, by simp, fun a ha b hb => ?_⟩, fun q hq => ?_, fun q hq => ?_⟩
  · rw [List.mem_singleton.1 hb, hp]; exact (h.bnd a ha).2
  · rcases List.mem_append.1 hq with hq | hq
    · have := h.bnd q hq; omega
    · rw [List.mem_singleton.1 hq]; omega
  · rcases List.mem_append.1 hq with hq | hq
    · exact h.fvs q hq
    · rw [List.mem_singleton.1 hq]; exact hf
theorem Up.filter {nx : Int} {l : List Pk} (h : Up nx l) (f : Pk → Bool) : Up nx (l.filter f) := ⟨h.inc.sublist List.filter_sublist, fun q hq => h.bnd q (List.mem_filter.1 hq).1, fun q hq => h.fvs q (List.mem_filter.1 hq).1⟩
/-- block M is a map of at most nn entries that holds the packets -/
def MapPk (w : World) (M nn : Nat) (l : List Pk) : Prop := ∃ D, MapAt w 3 M nn D ∧ HoldsPk D l
theorem MapAt.of_block {w w' : World} {k : TypeId} {b n : Nat} {D : DataW Value} (h : MapAt w k b n D) (hb : w'.heap[b]? = w.heap[b]?) : MapAt w' k b n D := by
  obtain ⟨es, clock, h1, Ft, hs, hD⟩ := h
  exact ⟨es, clock, hb.trans h1, Ft, hs, hD⟩
theorem MapPk.of_block {w w' : World} {M nn : Nat} {l : List Pk} (h : MapPk w M nn l) (hb : w'.heap[M]? = w.heap[M]?) : MapPk w' M nn l := by
  obtain ⟨D, h1, h2⟩ := h
  exact ⟨D, h1.of_block hb, h2⟩
theorem MapPk.lt {w : World} {M nn : Nat} {l : List Pk} (h : MapPk w M nn l) : M < w.heap.size := by
  obtain ⟨D, h1, h2⟩ := h
  exact h1.lt
theorem MapPk.look {w : World} {M nn : Nat} {l : List Pk} (h : MapPk w M nn l) {p : Pk} (hp : p ∈ l) (hw : (Lit.int .i64 p.pn).wf = true) : (Instr.lookup 78 (.map (some M)) (.int .i64 p.pn) false).run Tryz.prog w = .ok p.val w := by
  obtain ⟨D, h1, h2⟩ := h
  exact h1.look (t := 78) (e := 49) (K := Maps.int_keyed Tryz.underlying3) Tryz.underlying78 (Tryz.zeroValue49 w) (Maps.keyOf_int_mk Tryz.underlying3 hw) (h2.at_ p hp _)
theorem keys_sorted {D : DataW Value} {l : List Pk} {nx : Int} (h : HoldsPk D l) (hu : Up nx l) (hk : ∀ es, D = .map es → ∀ p ∈ es, ∃ x, p.1 = .int .i64 x) {ss : List Int} (hs : ss.Perm (intKeys D)) :
    ss.mergeSort (fun x y => decide (x ≤ y)) = l.map (·.pn) ∧ ss.length = l.length := by
  obtain ⟨es, rfl, ht⟩ := h.tidy
  have hnd : (l.map (·.pn)).Nodup := List.pairwise_map.2 (hu.inc.imp fun h e => by omega)
  have hp := perm_intKeys ht (hk es rfl) hnd (fun x => by rw [h.mem, List.mem_map])
  have hp2 : ss.Perm (l.map (·.pn)) := hs.trans hp.symm
  refine ⟨?_, by rw [hp2.length_eq, List.length_map]⟩
  refine List.Perm.eq_of_pairwise (le := fun a b => a ≤ b) (fun a b _ _ h1 h2 => Int.le_antisymm h1 h2) ?_ ?_ ((List.mergeSort_perm _ _).trans hp2)
  · refine (List.pairwise_mergeSort (le := fun x y : Int => decide (x ≤ y)) (fun a b c h1 h2 => by simp only [decide_eq_true_eq] at *; omega) (fun a b => by simp only [Bool.or_eq_true, decide_eq_true_eq]; omega) ss).imp fun h => by simpa using h
  · exact List.pairwise_map.2 (hu.inc.imp fun h => by omega)
theorem MapAt.keys {w : World} {b n : Nat} {D : DataW Value} (h : MapAt w 3 b n D) : ∀ es, D = .map es → ∀ p ∈ es, ∃ x, p.1 = .int .i64 x := by
  obtain ⟨es, rfl, hko⟩ := World.ownsMap.keysOf h
  rintro es' e p hp
  cases e
  obtain ⟨v, hv⟩ := hko p hp
  obtain ⟨x, _, hx, _⟩ := Maps.keyOf_i64 Tryz.underlying3 hv
  exact ⟨x, hx⟩
/-- the cells of a row of packets -/
def pcs (l : List Pk) : List Value := l.flatMap fun p => p.cells.toList
theorem pcs_length (l : List Pk) : (pcs l).length = l.length * 5 := by
  induction l with
  | nil => rfl
  | cons p l ih => simp [pcs, Pk.cells] at ih ⊢; omega
theorem pcs_snoc (l : List Pk) (p : Pk) : pcs (l ++ [p]) = pcs l ++ p.cells.toList := by simp [pcs]
theorem pcs_at (l : List Pk) (k j : Nat) (hk : k < l.length) (hj : j < 5) : (pcs l)[k * 5 + j]? = (l[k]'hk).cells.toList[j]? := by
  induction l generalizing k with
  | nil => simp at hk
  | cons p l ih =>
    cases k with
    | zero => simp only [pcs, List.flatMap_cons, Nat.zero_mul, Nat.zero_add, List.getElem_cons_zero]; rw [List.getElem?_append_left (by simp [Pk.cells]; exact hj)]
    | succ k =>
      simp only [pcs, List.flatMap_cons, List.getElem_cons_succ]
      rw [List.getElem?_append_right (by simp [Pk.cells]; omega)]
      have := ih k (by simpa using hk)
      rw [← this]
      simp only [pcs]
      congr 1
      simp [Pk.cells]; omega
theorem Pk.one (p : Pk) (h : ∃ a n c, p.fv = .slice a n c) : ∀ u ∈ p.cells.toList, u.oneCell' = true := by
  obtain ⟨a, n, c, e⟩ := h
  intro u hu
  simp [Pk.cells, e] at hu
  rcases hu with rfl | rfl | rfl | rfl | rfl <;> rfl
theorem info49 : (Tryz.prog.info? 49).map (fun i => (i.zero, i.size, i.bytes)) = some (some (.agg #[.int .i64 0, .int .i64 0, .int .i64 0, .bool false, .slice none 0 0]), 5, 56) := by kernel_rfl
end Go.Proofs.YtpfkeohaaeiaaaaGreatDoor.frm
/- Law 13: the iterator over the outstanding packets. -/
namespace Go.Proofs.YtpfkeohaaeiaaaaGreatDoor.frm
open Go.RowKit Go.Maps Go.Sort Go.Shelf
set_option maxRecDepth 100000
attribute [local go_sem] Oper.semAt_some
def encP (p : Pk) : Array Value := #[p.val]
/-- rows and boxes of ints stay -/
def Ints (W W' : World) : Prop := ∀ (k : Nat) (cs : Array Value) (fz : Nat × Nat), W.heap[k]? = some (.cells cs 3 fz) → W'.heap[k]? = some (.cells cs 3 fz)
def KpI (n₀ : Nat) (W W' : World) : Prop := Below n₀ W W' ∧ Ints W W'
theorem Ints.trans {a b c : World} (h : Ints a b) (k : Ints b c) : Ints a c := fun _ _ _ hh => k _ _ _ (h _ _ _ hh)
theorem Ints.below {a b : World} (h : Below a.heap.size a b) : Ints a b := fun _ _ _ hh => heap_below h hh
theorem KpI.trans {n₀ : Nat} {a b c : World} (h : KpI n₀ a b) (k : KpI n₀ b c) : KpI n₀ a c := ⟨h.1.trans k.1, h.2.trans k.2⟩
theorem sortsL (m : Nat) : AnyZI.SortsIn Tryz.prog Tryz.sortedL_ren Fence.wide m :=
  ⟨fun blk off cap ss W hH hblk hsz => callsIn_wide.2 (Tryz.slices_Sort_int blk off cap ss W hH hblk hsz),
   fun p cap W => callsIn_wide.2 (Tryz.slices_Sort_int_none p cap W)⟩
set_option maxRecDepth 100000 in
set_option maxHeartbeats 4000000 in
theorem all_in (n : Nat) (hn : 6 ≤ n) (ly B b M nn n₀ : Nat) (l : List Pk) (nx : Int) (hu : Up nx l) (hnx : nx ≤ 281474976710656) (hll : l.length ≤ 1000000) (J Jx : List Pk → World → Prop) {m : Nat} (hJA : AbidesFrom m J)
    (hY : ∀ pre x W, x ∈ l → J pre W → pre.length < l.length → YieldAt Fence.wide (n - 1) Tryz.prog ly (encP x) W fun e W' =>
      (e = .returned (.bool true) ∧ J (pre ++ [x]) W' ∧ KpI n₀ W W') ∨ (e = .returned (.bool false) ∧ Jx (pre ++ [x]) W'))
    (W : World) (hWn : n₀ ≤ W.heap.size) (hBl : B < n₀) (hbl : b < n₀) (hMl : M < n₀)
    (hB : W.cell? ⟨B, 0, none⟩ = some (.pointer (some ⟨b, 0, none⟩))) (hb : W.cell? ⟨b, 0, none⟩ = some (.map (some M))) (hM : MapPk W M nn l) (h0 : J [] W) :
    CallsIn Fence.wide n Tryz.prog 64 #[.func (.yield ly) #[] #[], .pointer (some ⟨B, 0, none⟩)] W fun e W' => (∃ v, e = .returned v) ∧
      ((∃ ys, ys = l ∧ J ys W') ∨ (∃ pre, pre <+: l ∧ Jx pre W')) := by
  obtain ⟨D, hD, hH⟩ := hM
  have HD := Lib.hid (And.intro hD hH)
  have hsz : Maps.size D = l.length := by
    obtain ⟨es, rfl, ht⟩ := hH.tidy
    have := (keys_sorted hH hu (MapAt.keys hD) (List.Perm.refl _)).2
    simpa [Maps.size, intKeys] using this
  have hseq : SeqGives Fence.wide (n - 1 - 1 - 1 - 1) Tryz.prog 91 #[.pointer (some ⟨W.heap.size, 0, none⟩)] encZ (fun ss => ss.Perm (intKeys D)) (Maps.size D) (W.alloc (.cells #[.map (some M)] 78)) :=
    AnyZI.keys_gives (ρ := Tryz.keysL_ren) { Tryz.keysL with } Fence.wide _ trivial rfl (by omega) W.heap.size M nn D _ (by simp) (by simp) (World.ownsMap.alloc hD _)
  have cK : ∀ mb W, CallsIn Fence.wide (n - 1) Tryz.prog 66 #[.map mb] W fun e w' => e = .returned (.func (.func 91) #[] #[.pointer (some ⟨W.heap.size, 0, none⟩)]) ∧ w' = W.alloc (.cells #[.map mb] 78) := fun mb W => AnyZI.keys_in Tryz.keysL Fence.wide (n - 1) trivial rfl mb W
  have cS := AnyZI.sorted_in Tryz.sortedL Fence.wide (n - 1) trivial trivial trivial trivial rfl (by omega) (sortsL _) (enters_of Tryz.func90 (by kernel_rfl) rfl) 91 #[.pointer (some ⟨W.heap.size, 0, none⟩)] trivial (enters_of Tryz.func91 (by kernel_rfl) rfl) _ _ (by rw [hsz]; unfold maxLen; omega) (by rw [hsz]; omega) _ hseq
  change CallsIn _ _ Tryz.prog 65 _ _ _ at cS
  have CS := Lib.hid cS
  have CK := Lib.hid cK
  have HS := Lib.hid hsz
  clear cS cK hseq hsz hD hH
  have hfK : Fence.wide.fn 66 := trivial
  have hfS : Fence.wide.fn 65 := trivial
  have h1n : 1 ≤ n := by omega
  refine callsIn_of_wp Tryz.func64 rfl trivial ?_ rfl
  simp only [Tryz.ntmps64, List.size_toArray, List.length_cons, List.length_nil, Nat.reduceAdd, Nat.reduceSub, Array.replicate_succ, Array.replicate_zero, List.push_toArray, List.append_toArray, List.nil_append, List.cons_append]
  gi_wp2_with (gi_at_call 66; refine (CK.out _ _).mono ?_; rintro e w' ⟨rfl, rfl⟩)
  refine CS.out.mono ?_
  rintro e w1 ⟨v, ss, rfl, hS, hrow, hnil, hb1⟩
  clear hfK hfS hnil
  have hq := keys_sorted HD.out.2 hu (MapAt.keys HD.out.1) hS
  rw [hq.1, hq.2] at hrow
  have hb2 : Below W.heap.size W w1 := btrans ((Below.refl W.heap.size W).alloc (Nat.le_refl _) _) hb1
  have HBW := Lib.hid hb2
  have J1 := Lib.hid (hJA [] W w1 none h0 (grown_below (r := none) hb2) (fun r e => by cases e))
  clear hq hS hb1 hb2 h0 CS CK
  rcases hrow.2 with ⟨rfl, hz⟩ | ⟨g, cap, cur, rfl, hbase, hg, r1, r2, r3, r4⟩
  · have hl0 : l = [] := List.eq_nil_of_length_eq_zero hz
    subst hl0
    clear hrow
    gi_wp2
    refine wpIn_loop_rounds 1 ?_
    rw [roundsIn_succ]
    gi_wp2
    go_end0
    exact ⟨⟨_, rfl⟩, .inl ⟨[], rfl, J1.out⟩⟩
  · have hcl := Lib.hid (fun (k : Nat) (hk : k < l.length) => (show w1.cell? ⟨g, k, none⟩ = some (.int .i64 (l[k]'hk).pn) from by
      have := hrow.cells (g := g) rfl k (.int .i64 (l[k]'hk).pn) (by simp [encZ, hk])
      rwa [add_plain, Nat.zero_add] at this))
    have HG := Lib.hid hg
    have R1 := r1
    clear hrow hg r3 r4 hbase
    have hb0 : Below n₀ W w1 := HBW.out.mono hWn
    unfold maxLen at r2
    gi_wp2
    gi_loopw [14] (fun i wr => ∃ k : Nat, k ≤ l.length ∧ i = .int .i64 k ∧ J (l.take k) wr ∧ Below n₀ W wr ∧ Ints w1 wr) (fun i _ => l.length - (intOf i).toNat)
    case atStart => exact ⟨0, by omega, rfl, J1.out, hb0, fun _ _ _ h => h⟩
    case round =>
      obtain ⟨k, hk, rfl, hJ, hbk, hik⟩ := hrel
      have HI := Lib.hid (And.intro hbk hik)
      have cB : wr.cell? ⟨B, 0, none⟩ = some (.pointer (some ⟨b, 0, none⟩)) := (hbk.cell (p := ⟨B, 0, none⟩) hBl).trans hB
      have cb : wr.cell? ⟨b, 0, none⟩ = some (.map (some M)) := (hbk.cell (p := ⟨b, 0, none⟩) hbl).trans hb
      have hMk : MapPk wr M nn l := MapPk.of_block ⟨D, HD.out.1, HD.out.2⟩ (hbk.block M hMl)
      clear hbk hik
      by_cases hlt : k < l.length
      · have hgw : wr.heap[g]? = some (.cells cur 3 (0, 0)) := HI.out.2 _ _ _ HG.out
        have ck : wr.cell? ⟨g, k, none⟩ = some (.int .i64 (l[k]'hlt).pn) := (World.cell?_of_block (a := ⟨g, k, none⟩) (hgw.trans HG.out.symm)).trans (hcl.out k hlt)
        have hpm : l[k]'hlt ∈ l := List.getElem_mem hlt
        have hpb := hu.bnd _ hpm
        have hlook := hMk.look hpm (pnWf hpb.1 (by omega))
        have hts := Lib.hid (List.take_succ_eq_append_getElem hlt)
        obtain ⟨fn, tmps, assign, body, hy, hR⟩ := hY _ (l[k]'hlt) wr hpm hJ (by rw [List.length_take]; omega)
        have HR := Lib.hid hR
        clear hR hMk hgw hpm hJ
        simp only [encP, Pk.val, Pk.cells] at hy hlook
        gi_wp2
        refine HR.out.mono ?_
        rintro e W3 (⟨rfl, hJ3, hk3⟩ | ⟨rfl, hJx3⟩)
        · have K3 := Lib.hid hk3
          clear hk3 hpb hlook hy ck cB cb
          gi_wp2
          go_roundw
          case rel => exact ⟨k + 1, by omega, by go_num, by rw [hts.out]; exact hJ3, HI.out.1.trans K3.out.1, HI.out.2.trans K3.out.2⟩
          case measure => simp [intOf]; omega
        · clear hpb hlook hy ck cB cb
          gi_wp2
          refine bodyPost_ret (results_none rfl _ _ _) rfl ?_
          exact ⟨⟨_, rfl⟩, .inr ⟨_, by rw [← hts.out]; exact List.take_prefix _ _, hJx3⟩⟩
      · obtain rfl : k = l.length := by omega
        rw [List.take_length] at hJ
        clear hlt
        gi_wp2
        go_end0
        exact ⟨⟨_, rfl⟩, .inl ⟨l, rfl, hJ⟩⟩
/-- the packets of l, each known to be one of them -/
abbrev In (l : List Pk) := { p : Pk // p ∈ l }
theorem all_stops (n : Nat) (hn : 6 ≤ n) (B b M nn n₀ : Nat) (l : List Pk) (nx : Int) (hu : Up nx l) (hnx : nx ≤ 281474976710656) (hll : l.length ≤ 1000000) (W : World) (hn0 : n₀ ≤ W.heap.size) (hBl : B < n₀) (hbl : b < n₀) (hMl : M < n₀)
    (hB : W.cell? ⟨B, 0, none⟩ = some (.pointer (some ⟨b, 0, none⟩))) (hb : W.cell? ⟨b, 0, none⟩ = some (.map (some M))) (hM : MapPk W M nn l) :
    SeqStopsK Fence.wide n Tryz.prog 64 #[.pointer (some ⟨B, 0, none⟩)] (fun x : In l => encP x.1) (KpI n₀) (fun ys => ys.map (·.1) = l) (fun _ => True) l.length W := fun ly J Jx W2 hW hA _ hY h0 => by
  refine (all_in n hn ly B b M nn n₀ l nx hu hnx hll (fun pre W => ∃ pre' : List (In l), pre'.map (·.1) = pre ∧ J pre' W) (fun pre W => ∃ pre' : List (In l), pre'.map (·.1) = pre ∧ Jx pre' W) (m := W2.heap.size)
    (fun s A C row hs hg hr => by obtain ⟨p', e, hj⟩ := hs; exact ⟨p', e, hA p' A C row hj hg hr⟩) ?_ W2 (Nat.le_trans hn0 hW.size) hBl hbl hMl ((hW.cell (p := ⟨B, 0, none⟩) (Nat.lt_of_lt_of_le hBl hn0)).trans hB) ((hW.cell (p := ⟨b, 0, none⟩) (Nat.lt_of_lt_of_le hbl hn0)).trans hb)
    (hM.of_block (hW.block M (Nat.lt_of_lt_of_le hMl hn0))) ⟨[], rfl, h0⟩).mono ?_
  · rintro pre x W hx ⟨pre', rfl, hj⟩ hlen
    refine (hY pre' ⟨x, hx⟩ W hj (by simpa using hlen)).mono ?_
    rintro e W' (⟨h1, h2, h3⟩ | ⟨h1, h2⟩)
    · exact .inl ⟨h1, ⟨pre' ++ [⟨x, hx⟩], by simp, h2⟩, h3⟩
    · exact .inr ⟨h1, pre' ++ [⟨x, hx⟩], by simp, h2⟩
  · rintro e W' ⟨h1, h2⟩
    refine ⟨h1, ?_⟩
    rcases h2 with ⟨ys, rfl, ys', e, hj⟩ | ⟨pre, _, pre', _, hj⟩
    · exact .inl ⟨ys', e, hj⟩
    · exact .inr ⟨pre', trivial, hj⟩
end Go.Proofs.YtpfkeohaaeiaaaaGreatDoor.frm
/- Law 13: filter: the packets that a condition wants. -/
namespace Go.Proofs.YtpfkeohaaeiaaaaGreatDoor.frm
open Go.RowKit Go.Shelf
set_option maxRecDepth 100000
attribute [local go_sem] Oper.semAt_some
theorem Ints.grown {W W' : World} {row : Option Nat} (hg : W.grownBy W' row) (hr : ∀ k cs fz, some k = row → W.heap[k]? ≠ some (.cells cs 3 fz)) : Ints W W' := fun k cs fz h => by
  refine (hg.block k (heap_lt h) (fun e => hr k cs fz e h)).trans h
theorem Ints.row {B n : Nat} {W W' : World} {v : Value} {xs : List Value} (hown : W.ownsRow B 49 5 v n xs) (hg : W.grownBy W' v.ownBlock) : Ints W W' := Ints.grown hg (fun k cs fz e h => by
  rcases hown.2 with ⟨rfl, _⟩ | ⟨g, cap, cur, rfl, hb, hgg, _⟩
  · simp [Value.ownBlock] at e
  · simp [Value.ownBlock] at e
    subst e
    rw [hgg] at h
    cases h)
theorem Ints.set {W : World} {B : Nat} {v u : Value} (h : Boxed W B 33 v) : Ints W (W.setCell ⟨B, 0, none⟩ u) := fun k cs fz hk => by
  refine (heap_setCell_other W _ k u (fun e => ?_)).trans hk
  have e : k = B := e
  subst e
  rw [show W.heap[k]? = _ from h] at hk
  cases hk
theorem row_keep {B n : Nat} {e : TypeId} {z : Nat} {W W' : World} {v : Value} {xs : List Value} (hown : W.ownsRow B e z v n xs) (hg : W.grownBy W' v.ownBlock) {k : Nat} {cs : Array Value} {T : TypeId} {fz : Nat × Nat} (h : W.heap[k]? = some (.cells cs T fz)) (hT : T ≠ e) : W'.heap[k]? = some (.cells cs T fz) := by
  refine (hg.block k (heap_lt h) (fun e => ?_)).trans h
  rcases hown.2 with ⟨rfl, _⟩ | ⟨g, cap, cur, rfl, hb, hgg, _⟩
  · simp [Value.ownBlock] at e
  · simp [Value.ownBlock] at e
    subst e
    rw [hgg] at h
    cases h
    exact hT rfl
theorem kpi_t {n₀ : Nat} {A B C : World} (h : KpI n₀ A B) (k : KpI n₀ B C) : KpI n₀ A C := h.trans k
theorem kpi_b {n₀ : Nat} {w : World} (hn : n₀ ≤ w.heap.size) (W : World) (l : Nat) (o o' : Obj) (hl : w.heap.size ≤ l) (h : W.heap[l]? = some o) (hc : o.isCells = false) (hw : o.isWalk = false) : KpI n₀ W (W.putObj l o') :=
  ⟨belowK_b hn W l o o' hl h hc hw, Ints.grown (grownBy_putObj' W l o') (fun k cs fz e hk => by cases e; rw [h] at hk; cases hk; cases hc)⟩
theorem KeepsFrom.below {B : Nat} {W W' : World} (h : Below W.heap.size W W') : KeepsFrom B W W' := KeepsFrom.of_grownBy (grown_below (r := none) h) (fun j e => by cases e)
theorem heap_own {β : Type} (B : Nat) (k : Nat) (cs : Array Value) (T : TypeId) : OwnFrom B (fun (_ : β) W => W.heap[k]? = some (.cells cs T (0, 0))) := fun s X Y row hs hg hr =>
  (hg.block k (heap_lt hs) (fun e => by obtain ⟨_, o, ho, hc⟩ := hr k e.symm; rw [hs] at ho; cases ho; cases hc)).trans hs
/-- the ones among those that have come -/
def FL {l : List Pk} (f : Pk → Bool) (pre : List (In l)) : List Pk := (pre.map (·.1)).filter f
theorem FL_snoc {l : List Pk} (f : Pk → Bool) (pre : List (In l)) (x : In l) : FL f (pre ++ [x]) = if f x.1 then FL f pre ++ [x.1] else FL f pre := by
  unfold FL
  rw [List.map_append, List.filter_append]
  by_cases h : f x.1 <;> simp [h]
theorem FL_le {l : List Pk} (f : Pk → Bool) (pre : List (In l)) : (FL f pre).length ≤ pre.length := by
  unfold FL
  exact Nat.le_trans (List.length_filter_le _ _) (by simp)
set_option maxRecDepth 100000 in
set_option maxHeartbeats 4000000 in
theorem filter_any (l : List Pk) (nx : Int) (hu : Up nx l) (hll : l.length ≤ 1000000) (B k : Nat) (lb : Array Value) (f : Pk → Bool) (w : World)
    (hS : SeqStopsK Fence.wide 7 Tryz.prog 64 #[.pointer (some ⟨B, 0, none⟩)] (fun x : In l => encP x.1) (KpI w.heap.size) (fun ys => ys.map (·.1) = l) (fun _ => True) l.length w)
    (ek : ∀ args w, (callFunc k args).run Tryz.prog w = .ok (.enter k args) w)
    (hwant : ∀ p ∈ l, ∀ W, Below w.heap.size w W → Calls Tryz.prog k (#[p.val] ++ lb) W fun e W' => e = .returned (.bool (f p)) ∧ Below W.heap.size W W') :
    Calls Tryz.prog 38 #[.func (.func 64) #[] #[.pointer (some ⟨B, 0, none⟩)], .func (.func k) #[] lb] w fun e w' =>
      ∃ v, e = .returned v ∧ w'.ownsRow w.heap.size 49 5 v (l.filter f).length (pcs (l.filter f)) ∧ (v = .slice none 0 0 ↔ l.filter f = []) ∧ Below w.heap.size w w' := by
  obtain ⟨i0, hi, hz0, hz1, hz2⟩ := info_parts info49
  have HW := Lib.hid hwant
  have X := Lib.hid (box2 w (.cells #[.func (.func k) #[] lb] 86) (.cells #[.slice none 0 0] 33))
  clear hwant
  refine (callsIn_wide (n := 8)).1 ?_
  refine callsIn_of_wp_marks Tryz.func38 rfl trivial ?_ rfl
  simp only [Tryz.ntmps38, List.size_toArray, List.length_cons, List.length_nil, Nat.reduceAdd, Nat.reduceSub, Array.replicate_succ, Array.replicate_zero, List.push_toArray, List.append_toArray, List.nil_append, List.cons_append]
  gi_wp2
  generalize (w.alloc _).alloc _ = W0 at X ⊢
  obtain ⟨X1, X2, X3, X4⟩ := X.out
  refine wpIn_rangeFunc_ownH rfl (by decide) (gf := 64) (lb := #[.pointer (some ⟨B, 0, none⟩)]) rfl trivial (enters_of Tryz.func64 (by kernel_rfl) rfl)
    hS kpi_t (kpi_b (by omega)) X3 (fun _ => rfl)
    (fun (pre : List (In l)) W => (W.heap[w.heap.size]? = some (.cells #[.func (.func k) #[] lb] 86 (0, 0)) ∧ ∃ v, Boxed W (w.heap.size + 1) 33 v ∧ W.ownsRow w.heap.size 49 5 v (FL f pre).length (pcs (FL f pre)) ∧ (v = .slice none 0 0 ↔ FL f pre = [])) ∧ Below w.heap.size w W)
    (fun _ _ _ => False)
    (OwnFrom.and (OwnFrom.and (heap_own _ _ _ _) (Own.from (holdsRow_own w.heap.size (w.heap.size + 1) 33 49 5 (fun (pre : List (In l)) => (FL f pre).length) (fun pre => pcs (FL f pre)) (fun pre v => v = .slice none 0 0 ↔ FL f pre = [])) _)) (ownFrom_below (Nat.le_refl _) (by omega)))
    (fun _ _ _ _ _ hs _ _ => hs)
    ⟨⟨X1, _, X2, World.ownsRow_nil _ _ _ _, by simp [FL]⟩, X3⟩
    (fun x a' W => ∃ Bx, W0.heap.size ≤ Bx ∧ W.heap[Bx]? = some (.cells x.1.cells 49 (0, 0)) ∧ a' = { tmps := #[.func (.func 64) #[] #[.pointer (some ⟨B, 0, none⟩)], .func (.func k) #[] lb, undef, .pointer (some ⟨w.heap.size, 0, none⟩), .slice none 0 0, .pointer (some ⟨w.heap.size + 1, 0, none⟩), .pointer (some ⟨Bx, 0, none⟩), .func (.func 64) #[] #[.pointer (some ⟨B, 0, none⟩)], x.1.val, undef, undef, undef, undef, undef, undef, undef, undef], defers := [] })
    (fun x a' s A C row hs hg hr => by
      obtain ⟨Bx, h1, h2, h3⟩ := hs
      exact ⟨Bx, h1, heap_own _ _ _ _ () A C row h2 hg hr, h3⟩)
    ?assign ?body ?done ?stop
  case assign =>
    rintro ly pre x W K hi hK
    obtain ⟨⟨pn, time, size, el, fv⟩, hx⟩ := x
    obtain ⟨fa, fl, fc, e⟩ := hu.fvs _ hx
    obtain rfl : fv = .slice fa fl fc := e
    simp only [encP, Pk.val, Pk.cells] at hK ⊢
    have H1 := Lib.hid (And.intro hi hK)
    clear hi hK
    gi_wp2
    refine H1.out.2 _ _ ((KeepsOthers.alloc _ _).from _) ⟨(Below.refl _ W).alloc H1.out.1.2.size _, Ints.below ((Below.refl _ W).alloc (Nat.le_refl _) _)⟩ ?_ ⟨W.heap.size, ?_, heap_alloc_new W _, rfl⟩
    · obtain ⟨⟨q1, v, q2, q3, q4⟩, q5⟩ := H1.out.1
      exact ⟨⟨(Below.heap_alloc W _ _ (heap_lt q1)).trans q1, v, q2.alloc _, q3.alloc _, q4⟩, q5.trans ((Below.refl _ W).alloc q5.size _)⟩
    · obtain ⟨⟨q1, v, q2, q3, q4⟩, q5⟩ := H1.out.1
      have := heap_lt (show W.heap[w.heap.size + 1]? = some (.cells #[v] 33 (0, 0)) from q2)
      omega
  case body =>
    rintro ly pre x a' W hl ⟨r, hr⟩ ⟨⟨hw3, v, hv, hrow, hnil⟩, hB⟩ ⟨Bx, hBx, hbx, rfl⟩ hlen
    have c3 := at_whole hw3 0 rfl
    simp only [List.getElem_toArray, List.getElem_cons_zero] at c3
    have hfv := hu.fvs _ x.2
    obtain ⟨⟨pn, time, size, el, fv⟩, hx⟩ := x
    obtain ⟨fa, fl, fc, e⟩ := hfv
    obtain rfl : fv = .slice fa fl fc := e
    simp only [Pk.val, Pk.cells] at hbx ⊢
    have l0 := at_whole hbx 0 rfl
    have l1 := at_whole hbx 1 rfl
    have l2 := at_whole hbx 2 rfl
    have l3 := at_whole hbx 3 rfl
    have l4 := at_whole hbx 4 rfl
    simp only [List.getElem_toArray, List.getElem_cons_zero, List.getElem_cons_succ] at l0 l1 l2 l3 l4
    have G := Lib.hid (And.intro hw3 (And.intro hv (And.intro hrow (And.intro hnil (And.intro hB hbx)))))
    clear hw3 hv hrow hnil hB hbx
    gi_wp2_with fail
    refine ⟨trivial, (CallsIn.inRound ly (callsIn_wide.2 (HW.out _ hx W G.out.2.2.2.2.1))).mono ?_⟩
    rintro e W1 ⟨rfl, hb1⟩
    have m0 := at_whole (heap_below hb1 G.out.2.2.2.2.2) 0 rfl
    have m1 := at_whole (heap_below hb1 G.out.2.2.2.2.2) 1 rfl
    have m2 := at_whole (heap_below hb1 G.out.2.2.2.2.2) 2 rfl
    have m3 := at_whole (heap_below hb1 G.out.2.2.2.2.2) 3 rfl
    have m4 := at_whole (heap_below hb1 G.out.2.2.2.2.2) 4 rfl
    simp only [List.getElem_toArray, List.getElem_cons_zero, List.getElem_cons_succ] at m0 m1 m2 m3 m4
    obtain ⟨q1, q2, q3, q4, q5, q6⟩ := G.out
    have hv1 : Boxed W1 (w.heap.size + 1) 33 v := heap_below hb1 q2
    have hr1 : W1.ownsRow w.heap.size 49 5 v (FL f pre).length (pcs (FL f pre)) := q3.kept (grown_below (r := none) hb1) (by cases hv : v.ownBlock <;> simp)
    have hB1 := q5.trans (hb1.mono q5.size)
    have hle := FL_le f pre
    have hs := Lib.hid (FL_snoc f pre ⟨_, hx⟩)
    have K1 := Lib.hid (And.intro (KeepsFrom.below (B := W0.heap.size) hb1) (And.intro (show KpI w.heap.size W W1 from ⟨hb1.mono q5.size, Ints.below hb1⟩) (heap_below hb1 q1)))
    clear q1 q2 q3 q5 q6 hb1 l0 l1 l2 l3 l4
    cases hfx : f { pn := pn, time := time, size := size, el := el, fv := Value.slice fa fl fc } with
    | false =>
      rw [hfx] at hs
      simp only [Bool.false_eq_true, if_false] at hs
      have H := Lib.hid (And.intro hv1 (And.intro hr1 (And.intro q4 hB1)))
      clear hv1 hr1 q4 hB1 m0 m1 m2 m3 m4 hfx
      gi_wp2
      refine ⟨K1.out.1, K1.out.2.1, ⟨K1.out.2.2, v, H.out.1, ?_, ?_⟩, H.out.2.2.2⟩
      · rw [hs.out]; exact H.out.2.1
      · rw [hs.out]; exact H.out.2.2.1
    | true =>
      rw [hfx] at hs
      simp only [if_true] at hs
      have hc := hv1.cell
      clear hfx
      gi_wp2_with (gi_at_builtin; refine wpListIn_append_own _ rfl _ _ 33 rfl w.heap.size 49 i0 (.agg #[.int .i64 0, .int .i64 0, .int .i64 0, .bool false, .slice none 0 0]) 5 56 Tryz.underlying33 hi hz0 hz1 hz2 rfl (by decide) _ _ _ rfl (hr1.alloc _) ⟨W1.heap.size, 0, none⟩ 1 1 (Pk.cells ⟨pn, time, size, el, .slice fa fl fc⟩).toList rfl rfl (World.news_of_block (heap_alloc_new _ _)) (Pk.one _ ⟨_, _, _, rfl⟩) (by unfold maxLen; omega) (by omega) (by have := hB1.size; simp; omega) ?_; intro v' w1 hown' hgrow _; obtain ⟨g', cap', rfl⟩ := ownsRow_succ hown'; obtain ⟨hv2, hv3, hr2, hk2, hb2⟩ := hv1.appended (by decide) hr1 hB1.size (by omega) hown' hgrow; have hi2 : Ints W1 w1 := (Ints.below ((Below.refl _ W1).alloc (Nat.le_refl _) _)).trans (Ints.row (hr1.alloc _) hgrow); have hc1 := hv2.cell; have hf1 := hv2.frozen)
      refine ⟨K1.out.1.trans (hk2.from _), K1.out.2.1.trans ⟨hb2, hi2.trans (Ints.set hv2)⟩, ⟨?_, _, hv3, ?_, ?_⟩, hB1.trans hb2⟩
      · exact (heap_setCell_other _ _ _ _ (fun e => by have : w.heap.size = w.heap.size + 1 := e; omega)).trans (row_keep (hr1.alloc _) hgrow ((Below.heap_alloc W1 _ _ (heap_lt K1.out.2.2)).trans K1.out.2.2) (by decide))
      · rw [hs.out, pcs_snoc, List.length_append]
        exact hr2
      · rw [hs.out]
        simp
  case done =>
    rintro D ys W hD hys ⟨⟨_, v, hv, hrow, hnil⟩, hB⟩ hK
    have hc := hv.cell
    have e : FL f ys = l.filter f := by unfold FL; rw [hys]
    rw [e] at hrow hnil
    have H := Lib.hid (And.intro hrow (And.intro hnil (And.intro hB hK)))
    clear e hrow hnil hB hK
    gi_wp2
    refine ⟨by simp, .inl ⟨_, _, rfl, run_takeDeferred H.out.2.2.2, ?_⟩⟩
    exact ⟨_, results_tmp rfl _ _ _, v, rfl, ownsRow_putObj H.out.1 _ H.out.2.2.2 rfl, H.out.2.1, H.out.2.2.1.trans (belowK_b (w := w) (Nat.le_refl _) W D _ _ (by omega) H.out.2.2.2 rfl rfl)⟩
  case stop =>
    rintro D c pre W _ _ h _
    exact h.elim
end Go.Proofs.YtpfkeohaaeiaaaaGreatDoor.frm
/- Law 13: the conditions on packets. -/
namespace Go.Proofs.YtpfkeohaaeiaaaaGreatDoor.frm
open Go.RowKit
set_option maxRecDepth 100000
set_option maxRecDepth 100000 in
set_option maxHeartbeats 2000000 in
theorem want46 (p : Pk) (w : World) : Calls Tryz.prog 40 #[p.val] w fun e w' => e = .returned (.bool true) ∧ Below w.heap.size w w' := by
  simp only [Pk.val]
  go_enter Tryz.func40, Tryz.ntmps40
  go_wp2
  go_ret
  exact ⟨rfl, (Below.refl _ _).alloc (Nat.le_refl _) _⟩
set_option maxRecDepth 100000 in
set_option maxHeartbeats 2000000 in
theorem want52 (p : Pk) (w : World) : Calls Tryz.prog 62 #[p.val] w fun e w' => e = .returned (.bool true) ∧ Below w.heap.size w w' := by
  simp only [Pk.val]
  go_enter Tryz.func62, Tryz.ntmps62
  go_wp2
  go_ret
  exact ⟨rfl, (Below.refl _ _).alloc (Nat.le_refl _) _⟩
def exF (lg now d : Int) (p : Pk) : Bool := decide (p.pn < lg) && (decide (p.pn + 3 ≤ lg) || decide (p.time ≤ now - d))
set_option maxRecDepth 100000 in
set_option maxHeartbeats 4000000 in
theorem want39 (p : Pk) (B3 B4 B5 b : Nat) (lg now d : Int) (w : World) (h3 : w.cell? ⟨B3, 0, none⟩ = some (.pointer (some ⟨b, 0, none⟩))) (h4 : w.cell? ⟨B4, 0, none⟩ = some (.int .i64 now)) (h5 : w.cell? ⟨B5, 0, none⟩ = some (.int .i64 d))
    (hb : w.cell? ⟨b, 2, none⟩ = some (.int .i64 lg)) (hp : 0 ≤ p.pn ∧ p.pn ≤ 281474976710656) (hn : 0 ≤ now) (hn' : now ≤ 9223372036854775807) (hd : 0 ≤ d) (hd' : d ≤ 9223372036854775807) :
    Calls Tryz.prog 63 #[p.val, .pointer (some ⟨B3, 0, none⟩), .pointer (some ⟨B4, 0, none⟩), .pointer (some ⟨B5, 0, none⟩)] w fun e w' => e = .returned (.bool (exF lg now d p)) ∧ Below w.heap.size w w' := by
  simp only [Pk.val, Pk.cells]
  have l3 := World.block_lt_of_cell? _ _ h3
  have l4 := World.block_lt_of_cell? _ _ h4
  have l5 := World.block_lt_of_cell? _ _ h5
  have lb := World.block_lt_of_cell? _ _ hb
  obtain ⟨hp0, hp1⟩ := hp
  have H := Lib.hid (box1 w (.cells #[.int .i64 p.pn, .int .i64 p.time, .int .i64 p.size, .bool p.el, p.fv] 49))
  have E := Lib.hid (show exF lg now d p = (decide (p.pn < lg) && (decide (p.pn + 3 ≤ lg) || decide (p.time ≤ now - d))) from rfl)
  have c1 := at_whole H.out.1 0 rfl
  have c1' := at_whole H.out.1 1 rfl
  have c3 : (w.alloc (.cells #[.int .i64 p.pn, .int .i64 p.time, .int .i64 p.size, .bool p.el, p.fv] 49)).cell? ⟨B3, 0, none⟩ = some (.pointer (some ⟨b, 0, none⟩)) := (H.out.2.1.cell (p := ⟨B3, 0, none⟩) l3).trans h3
  have c4 : (w.alloc (.cells #[.int .i64 p.pn, .int .i64 p.time, .int .i64 p.size, .bool p.el, p.fv] 49)).cell? ⟨B4, 0, none⟩ = some (.int .i64 now) := (H.out.2.1.cell (p := ⟨B4, 0, none⟩) l4).trans h4
  have c5 : (w.alloc (.cells #[.int .i64 p.pn, .int .i64 p.time, .int .i64 p.size, .bool p.el, p.fv] 49)).cell? ⟨B5, 0, none⟩ = some (.int .i64 d) := (H.out.2.1.cell (p := ⟨B5, 0, none⟩) l5).trans h5
  have cb : (w.alloc (.cells #[.int .i64 p.pn, .int .i64 p.time, .int .i64 p.size, .bool p.el, p.fv] 49)).cell? ⟨b, 2, none⟩ = some (.int .i64 lg) := (H.out.2.1.cell (p := ⟨b, 2, none⟩) lb).trans hb
  simp only [List.getElem_toArray, List.getElem_cons_zero, List.getElem_cons_succ] at c1 c1'
  have w1 : IntKind.i64.wrap (p.pn + 3) = p.pn + 3 := IntWalk.i64_in _ (by omega)
  have w2 : IntKind.i64.wrap (now - d) = now - d := IntWalk.i64_in _ (by omega)
  clear h3 h4 h5 hb l3 l4 l5 lb
  cases a1 : decide (p.pn < lg) with
  | false =>
    rw [a1] at E
    go_enter Tryz.func63, Tryz.ntmps63
    go_wp2
    generalize w.alloc _ = W at c1 c1' c3 c4 c5 cb H ⊢
    go_quiet (fail)
    go_wp2
    go_ret
    exact ⟨by rw [E.out]; rfl, belowN H.out.2.1 _⟩
  | true =>
    rw [a1] at E
    cases a2 : decide (p.pn + 3 ≤ lg) with
    | true =>
      rw [a2] at E
      go_enter Tryz.func63, Tryz.ntmps63
      go_wp2
      generalize w.alloc _ = W at c1 c1' c3 c4 c5 cb H ⊢
      go_quiet (fail)
      go_wp2
      go_ret
      exact ⟨by rw [E.out]; rfl, belowN H.out.2.1 _⟩
    | false =>
      rw [a2] at E
      go_enter Tryz.func63, Tryz.ntmps63
      go_wp2
      generalize w.alloc _ = W at c1 c1' c3 c4 c5 cb H ⊢
      go_quiet (fail)
      go_wp2
      go_ret
      exact ⟨by rw [E.out]; rfl, belowN H.out.2.1 _⟩
end Go.Proofs.YtpfkeohaaeiaaaaGreatDoor.frm
/- Law 13: which packets an ACK frame names. -/
namespace Go.Proofs.YtpfkeohaaeiaaaaGreatDoor.frm
open Go.RowKit
set_option maxRecDepth 100000
def spF (f t pn : Int) : Bool := decide (f ≤ pn) && decide (pn < t)
set_option maxRecDepth 100000 in
set_option maxHeartbeats 2000000 in
theorem in43 (f t pn : Int) (Bp : Nat) (w : World) (hp : w.cell? ⟨Bp, 0, none⟩ = some (.int .i64 pn)) :
    Calls Tryz.prog 88 #[.agg #[.int .i64 f, .int .i64 t], .pointer (some ⟨Bp, 0, none⟩)] w fun e w' => e = .returned (.bool (spF f t pn)) ∧ Below w.heap.size w w' := by
  have hl := World.block_lt_of_cell? _ _ hp
  have E := Lib.hid (show spF f t pn = (decide (f ≤ pn) && decide (pn < t)) from rfl)
  cases a1 : decide (f ≤ pn) with
  | false =>
    rw [a1] at E
    go_enter Tryz.func88, Tryz.ntmps88
    go_wp2
    go_ret
    exact ⟨by rw [E.out]; rfl, (Below.refl _ _).alloc (Nat.le_refl _) _⟩
  | true =>
    rw [a1] at E
    go_enter Tryz.func88, Tryz.ntmps88
    go_wp2
    go_ret
    exact ⟨by rw [E.out]; rfl, (Below.refl _ _).alloc (Nat.le_refl _) _⟩
def inF (n : Nat) (F T : Nat → Int) (pn : Int) : Bool := (List.range n).any fun k => spF (F k) (T k) pn
def IdxPost (n : Nat) (F T : Nat → Int) (pn : Int) (w : World) (e : Ending) (w' : World) : Prop := ∃ r : Int, e = .returned (.int .i64 r) ∧ decide (0 ≤ r) = inF n F T pn ∧ Below w.heap.size w w'
set_option maxRecDepth 100000 in
set_option maxHeartbeats 4000000 in
theorem idx66 (n : Nat) (F T : Nat → Int) (pn : Int) (v : Value) (Bp : Nat) (w : World) (hn : n ≤ 1000) (hS : SpansAt w v n F T) (hp : w.cell? ⟨Bp, 0, none⟩ = some (.int .i64 pn)) :
    Calls Tryz.prog 118 #[v, .func (.func 88) #[] #[.pointer (some ⟨Bp, 0, none⟩)]] w (IdxPost n F T pn w) := by
  have hl := World.block_lt_of_cell? _ _ hp
  obtain ⟨g, o, cap, rfl, hcap, hm, hsp⟩ := hS
  have SP := Lib.hid hsp
  have HP := Lib.hid hp
  unfold maxLen at hm
  clear hsp hp
  go_enter Tryz.func118, Tryz.ntmps118
  go_wp2
  go_loopw [8] (fun i wr => ∃ k : Nat, k ≤ n ∧ i = .int .i64 k ∧ Hid (∀ j, j < k → spF (F j) (T j) pn = false) ∧ Below w.heap.size w wr) (fun i _ => n - (intOf i).toNat)
  case atStart => exact ⟨0, by omega, rfl, Lib.hid (fun j hj => by omega), Below.refl _ _⟩
  case round =>
    obtain ⟨k, hk, rfl, hno, hB⟩ := hrel
    have B := Lib.hid hB
    clear hB
    by_cases hlt : k < n
    · have s0 : wr.cell? ⟨g, o + k * 2, none⟩ = some (.int .i64 (F k)) := (B.out.cell (World.block_lt_of_cell? _ _ (SP.out k hlt).1)).trans (SP.out k hlt).1
      have s1 : wr.cell? ⟨g, o + k * 2 + 1, none⟩ = some (.int .i64 (T k)) := (B.out.cell (World.block_lt_of_cell? _ _ (SP.out k hlt).2)).trans (SP.out k hlt).2
      have C := Lib.hid (in43 (F k) (T k) pn Bp wr ((B.out.cell (p := ⟨Bp, 0, none⟩) hl).trans HP.out))
      cases hc : spF (F k) (T k) pn with
      | true =>
        rw [hc] at C
        have HC := Lib.hid hc
        clear hc
        go_wp2_with (go_at_call 88; refine C.out.mono ?_; rintro e w1 ⟨rfl, hb1⟩)
        go_ret
        refine ⟨k, rfl, ?_, B.out.trans (hb1.mono B.out.size)⟩
        have : inF n F T pn = true := List.any_eq_true.2 ⟨k, List.mem_range.2 hlt, HC.out⟩
        rw [this]; simp
      | false =>
        rw [hc] at C
        have HC := Lib.hid hc
        clear hc
        go_wp2_with (go_at_call 88; refine C.out.mono ?_; rintro e w1 ⟨rfl, hb1⟩)
        have B1 := Lib.hid (B.out.trans (hb1.mono B.out.size))
        clear hb1
        go_roundw
        case rel => exact ⟨k + 1, by omega, by go_num, Lib.hid (fun j hj => by rcases Nat.lt_succ_iff_lt_or_eq.1 hj with h | h; exact hno.out j h; rw [h]; exact HC.out), B1.out⟩
        case measure => simp [intOf]; omega
    · obtain rfl : k = n := by omega
      clear hlt
      go_wp2
      go_ret
      refine ⟨-1, rfl, ?_, B.out⟩
      have : inF k F T pn = false := by
        unfold inF
        rw [List.any_eq_false]
        intro j hj
        rw [hno.out j (List.mem_range.1 hj)]
        simp
      rw [this]; rfl
set_option maxRecDepth 100000 in
set_option maxHeartbeats 2000000 in
theorem contains42 (n : Nat) (F T : Nat → Int) (pn : Int) (v : Value) (Bp : Nat) (w : World) (hn : n ≤ 1000) (hS : SpansAt w v n F T) (hp : w.cell? ⟨Bp, 0, none⟩ = some (.int .i64 pn)) :
    Calls Tryz.prog 87 #[v, .func (.func 88) #[] #[.pointer (some ⟨Bp, 0, none⟩)]] w fun e w' => e = .returned (.bool (inF n F T pn)) ∧ Below w.heap.size w w' := by
  have C := Lib.hid (idx66 n F T pn v Bp w hn hS hp)
  obtain ⟨g, o, cap, rfl, _⟩ := hS
  clear hp
  cases hi : inF n F T pn with
  | true =>
    have H := Lib.hid hi
    clear hi
    go_enter Tryz.func87, Tryz.ntmps87
    go_wp2_with (go_at_call 118; refine C.out.mono ?_; rintro e w1 ⟨r, rfl, hr, hb⟩; rw [H.out] at hr)
    go_ret
    exact ⟨rfl, hb⟩
  | false =>
    have H := Lib.hid hi
    clear hi
    go_enter Tryz.func87, Tryz.ntmps87
    go_wp2_with (go_at_call 118; refine C.out.mono ?_; rintro e w1 ⟨r, rfl, hr, hb⟩; rw [H.out] at hr)
    go_ret
    exact ⟨rfl, hb⟩
def akF (n : Nat) (F T : Nat → Int) (p : Pk) : Bool := inF n F T p.pn
set_option maxRecDepth 100000 in
set_option maxHeartbeats 2000000 in
theorem want41 (p : Pk) (Bf n : Nat) (F T : Nat → Int) (cs : Array Value) (v : Value) (w : World) (hn : n ≤ 1000) (hS : SpansAt w v n F T) (hb : w.heap[Bf]? = some (.cells cs 56 (0, 0))) (hc : cs[9]? = some v) :
    Calls Tryz.prog 86 #[p.val, .pointer (some ⟨Bf, 0, none⟩)] w fun e w' => e = .returned (.bool (akF n F T p)) ∧ Below w.heap.size w w' := by
  simp only [Pk.val, Pk.cells, akF]
  have hl := heap_lt hb
  have H := Lib.hid (box1 w (.cells #[.int .i64 p.pn, .int .i64 p.time, .int .i64 p.size, .bool p.el, p.fv] 49))
  have C := Lib.hid (contains42 n F T p.pn v w.heap.size _ hn (hS.below H.out.2.1) (at_whole H.out.1 0 rfl))
  obtain ⟨g, o, cap, rfl, _⟩ := hS
  have c9 : (w.alloc (.cells #[.int .i64 p.pn, .int .i64 p.time, .int .i64 p.size, .bool p.el, p.fv] 49)).cell? ⟨Bf, 9, none⟩ = some (.slice (some ⟨g, o, none⟩) n cap) := (H.out.2.1.cell (p := ⟨Bf, 9, none⟩) hl).trans ((cell_whole hb 9).trans hc)
  have hmf : ∀ (fn : Fn) (first cap : Array Value) (w : World), (Instr.makeFunc fn first cap).run Tryz.prog w = .ok (.func fn first cap) w := fun _ _ _ _ => rfl
  clear hb hc
  go_enter Tryz.func86, Tryz.ntmps86
  go_wp2_with (go_at_call 87; refine C.out.mono ?_; rintro e w1 ⟨rfl, hb1⟩)
  go_ret
  exact ⟨rfl, btrans H.out.2.1 hb1⟩
end Go.Proofs.YtpfkeohaaeiaaaaGreatDoor.frm
/- Law 13: a Recovery as plain data; all, filter and remove. -/
namespace Go.Proofs.YtpfkeohaaeiaaaaGreatDoor.frm
open Go.RowKit Go.Maps
set_option maxRecDepth 100000
/-- a Recovery: the outstanding packets, the next number, the largest acknowledged one -/
structure Rc where
  l : List Pk
  nx : Int
  lg : Int
structure Rc.Ok (R : Rc) : Prop where
  up : Up R.nx R.l
  n0 : 0 ≤ R.nx
  n1 : R.nx ≤ 10000
  g0 : -1 ≤ R.lg
  g1 : R.lg < R.nx
  len : (R.l.length : Int) ≤ R.nx
  tm : ∀ p ∈ R.l, 0 ≤ p.time ∧ p.time ≤ 1125899906842624
def RecAt (w : World) (b M : Nat) (R : Rc) : Prop := w.heap[b]? = some (.cells #[.map (some M), .int .i64 R.nx, .int .i64 R.lg] 80 (0, 0)) ∧ MapPk w M R.nx.toNat R.l
/-- only blocks b and M have turned -/
structure Tu (b M : Nat) (w w' : World) : Prop where
  os : w'.os = w.os
  tape : w'.tape = w.tape
  output : w'.output = w.output
  size : w.heap.size ≤ w'.heap.size
  block : ∀ k, k < w.heap.size → k ≠ b → k ≠ M → w'.heap[k]? = w.heap[k]?
theorem Tu.refl (b M : Nat) (w : World) : Tu b M w w := ⟨rfl, rfl, rfl, Nat.le_refl _, fun _ _ _ _ => rfl⟩
theorem Tu.trans {b M : Nat} {u v w : World} (h : Tu b M u v) (k : Tu b M v w) : Tu b M u w :=
  ⟨k.os.trans h.os, k.tape.trans h.tape, k.output.trans h.output, Nat.le_trans h.size k.size, fun i hi h1 h2 => (k.block i (Nat.lt_of_lt_of_le hi h.size) h1 h2).trans (h.block i hi h1 h2)⟩
theorem Tu.below {b M : Nat} {u v : World} (h : Below u.heap.size u v) : Tu b M u v := ⟨h.os, h.tape, h.output, h.size, fun i hi _ _ => h.block i hi⟩
theorem Tu.drewN {b M : Nat} {u v : World} (h : Tu b M u v) (n : Nat) : Tu b M u (v.drewN n) := ⟨h.os, h.tape, h.output, h.size, h.block⟩
theorem Tu.drew {b M : Nat} {u v : World} (h : Tu b M u v) : Tu b M u v.drew := ⟨h.os, h.tape, h.output, h.size, h.block⟩
theorem Tu.map {b M : Nat} {u v : World} (h : u.grownBy v (some M)) : Tu b M u v := ⟨h.os, h.tape, h.output, h.size, fun i hi _ h2 => h.block i hi (fun e => h2 (by cases e; rfl))⟩
theorem Tu.set {b M : Nat} (u : World) (i : Nat) (x : Value) : Tu b M u (u.setCell ⟨b, i, none⟩ x) := ⟨rfl, rfl, rfl, by simp, fun k _ h1 _ => heap_setCell_other u _ k x (fun e => h1 e)⟩
theorem Tu.to_below {b M B : Nat} {u v w : World} (h : Below B u v) (k : Tu b M v w) (hb : B ≤ b) (hM : B ≤ M) (hB : B ≤ v.heap.size) : Below B u w :=
  ⟨k.os.trans h.os, k.tape.trans h.tape, k.output.trans h.output, Nat.le_trans h.size k.size, fun i hi => (k.block i (by omega) (by omega) (by omega)).trans (h.block i hi)⟩
/-- v is a slice of the call's own that holds the packets -/
def PkRow (B : Nat) (w : World) (v : Value) (l : List Pk) : Prop := w.ownsRow B 49 5 v l.length (pcs l) ∧ (v = .slice none 0 0 ↔ l = [])
theorem PkRow.form {B : Nat} {w : World} {v : Value} {l : List Pk} (h : PkRow B w v l) : (v = .slice none 0 0 ∧ l = []) ∨ ∃ g cap cur, v = .slice (some ⟨g, 0, none⟩) l.length cap ∧ 0 < l.length ∧ l.length ≤ cap ∧ cap ≤ maxLen ∧ B ≤ g ∧ w.heap[g]? = some (.cells cur 49 (0, 0)) ∧
    ∀ k (hk : k < l.length), w.cell? ⟨g, k * 5, none⟩ = some (.int .i64 (l[k]'hk).pn) ∧ w.cell? ⟨g, k * 5 + 1, none⟩ = some (.int .i64 (l[k]'hk).time) ∧ w.cell? ⟨g, k * 5 + 2, none⟩ = some (.int .i64 (l[k]'hk).size) ∧ w.cell? ⟨g, k * 5 + 3, none⟩ = some (.bool (l[k]'hk).el) ∧ w.cell? ⟨g, k * 5 + 4, none⟩ = some (l[k]'hk).fv := by
  obtain ⟨h1, h2⟩ := h
  rcases h1.2 with ⟨rfl, hz⟩ | ⟨g, cap, cur, e, hbase, hg, r1, r2, r3, r4⟩
  · exact .inl ⟨rfl, h2.1 rfl⟩
  · subst e
    refine .inr ⟨g, cap, cur, rfl, ?_, r1, r2, hbase, hg, fun k hk => ?_⟩
    · rcases Nat.eq_zero_or_pos l.length with h0 | h0
      · have := h2.2 (List.eq_nil_of_length_eq_zero h0)
        cases this
      · exact h0
    · have hc : ∀ j u, j < 5 → (l[k]'hk).cells.toList[j]? = some u → w.cell? ⟨g, k * 5 + j, none⟩ = some u := fun j u hj hu => by
        have := h1.cells (g := g) rfl (k * 5 + j) u (by rw [pcs_at l k j hk hj]; exact hu)
        rwa [add_plain, Nat.zero_add] at this
      exact ⟨hc 0 _ (by decide) rfl, hc 1 _ (by decide) rfl, hc 2 _ (by decide) rfl, hc 3 _ (by decide) rfl, hc 4 _ (by decide) rfl⟩
theorem RecAt.not_row {w : World} {b M : Nat} {R : Rc} (h : RecAt w b M R) {g : Nat} {cur : Array Value} (hg : w.heap[g]? = some (.cells cur 49 (0, 0))) : g ≠ b ∧ g ≠ M := by
  refine ⟨fun e => ?_, fun e => ?_⟩
  · subst e; rw [h.1] at hg; cases hg
  · subst e
    obtain ⟨D, h1, _⟩ := h.2
    have := h1.no_cells hg
    cases this
theorem PkRow.turn {B b M : Nat} {w w' : World} {v : Value} {l : List Pk} {R : Rc} (h : PkRow B w v l) (hR : RecAt w b M R) (ht : Tu b M w w') : PkRow B w' v l := by
  refine ⟨⟨h.1.1, ?_⟩, h.2⟩
  rcases h.1.2 with h1 | ⟨g, cap, cur, rfl, hb, hgg, rest⟩
  · exact .inl h1
  · obtain ⟨n1, n2⟩ := hR.not_row hgg
    exact .inr ⟨g, cap, cur, rfl, hb, (ht.block g (heap_lt hgg) n1 n2).trans hgg, rest⟩
theorem PkRow.below {B : Nat} {w w' : World} {v : Value} {l : List Pk} (h : PkRow B w v l) (hb : Below w.heap.size w w') : PkRow B w' v l :=
  ⟨h.1.kept (grown_below (r := none) hb) (by cases hv : v.ownBlock <;> simp), h.2⟩
theorem PkRow.base {B B' : Nat} {w : World} {v : Value} {l : List Pk} (h : PkRow B w v l) (hb : B' ≤ B) : PkRow B' w v l := ⟨ownsRow_base_a h.1 hb, h.2⟩
theorem RecAt.ne {w : World} {b M : Nat} {R : Rc} (h : RecAt w b M R) : b ≠ M := fun e => by
  obtain ⟨D, h1, _⟩ := h.2
  subst e
  have := h1.no_cells h.1
  cases this
theorem RecAt.below {w w' : World} {b M : Nat} {R : Rc} (h : RecAt w b M R) (hb : Below w.heap.size w w') : RecAt w' b M R := ⟨heap_below hb h.1, h.2.of_block (hb.block M h.2.lt)⟩
theorem RecAt.grown {w w' : World} {b M : Nat} {R : Rc} {r : Option Nat} (h : RecAt w b M R) (hg : w.grownBy w' r) (h1 : some b ≠ r) (h2 : some M ≠ r) : RecAt w' b M R :=
  ⟨(hg.block b (heap_lt h.1) h1).trans h.1, h.2.of_block (hg.block M h.2.lt h2)⟩
set_option maxRecDepth 100000 in
set_option maxHeartbeats 2000000 in
theorem all_any (p : Option Addr) (w : World) : Calls Tryz.prog 39 #[.pointer p] w fun e w' => e = .returned (.func (.func 64) #[] #[.pointer (some ⟨w.heap.size, 0, none⟩)]) ∧ w' = w.alloc (.cells #[.pointer p] 30) := by
  have hmf : ∀ (fn : Fn) (first cap : Array Value) (w : World), (Instr.makeFunc fn first cap).run Tryz.prog w = .ok (.func fn first cap) w := fun _ _ _ _ => rfl
  go_enter Tryz.func39, Tryz.ntmps39
  go_wp2
  go_ret
  exact ⟨rfl, rfl⟩
/-- the condition f, as the closure k over lb, wherever nothing that lay in w has turned -/
def Wants (w : World) (k : Nat) (lb : Array Value) (f : Pk → Bool) (l : List Pk) : Prop :=
  ∀ p ∈ l, ∀ W, Below w.heap.size w W → Calls Tryz.prog k (#[p.val] ++ lb) W fun e W' => e = .returned (.bool (f p)) ∧ Below W.heap.size W W'
theorem Wants.below {w w' : World} {k : Nat} {lb : Array Value} {f : Pk → Bool} {l : List Pk} (h : Wants w k lb f l) (hb : Below w.heap.size w w') : Wants w' k lb f l := fun p hp W hW => h p hp W (btrans hb hW)
def SelPost (w : World) (l : List Pk) (e : Ending) (w' : World) : Prop := ∃ v, e = .returned v ∧ PkRow w.heap.size w' v l ∧ Below w.heap.size w w'
theorem sel_any {w : World} {b M : Nat} {R : Rc} (hR : RecAt w b M R) (ok : R.Ok) {k : Nat} {lb : Array Value} {f : Pk → Bool} (hw : Wants w k lb f R.l) (ek : ∀ args w, (callFunc k args).run Tryz.prog w = .ok (.enter k args) w) :
    Calls Tryz.prog 38 #[.func (.func 64) #[] #[.pointer (some ⟨w.heap.size, 0, none⟩)], .func (.func k) #[] lb] (w.alloc (.cells #[.pointer (some ⟨b, 0, none⟩)] 30)) (SelPost w (R.l.filter f)) := by
  obtain ⟨x1, x2, x3⟩ := box1 w (.cells #[.pointer (some ⟨b, 0, none⟩)] 30)
  have hR1 := hR.below x2
  have hl : R.l.length ≤ 1000000 := by have := ok.len; have := ok.n1; omega
  refine (filter_any R.l R.nx ok.up hl w.heap.size k lb f (w.alloc (.cells #[.pointer (some ⟨b, 0, none⟩)] 30))
    (all_stops 7 (by decide) w.heap.size b M R.nx.toNat _ R.l R.nx ok.up (by have := ok.n1; omega) hl _ (Nat.le_refl _) (by omega) (heap_lt hR1.1) hR1.2.lt (at_whole x1 0 rfl) (at_whole hR1.1 0 rfl) hR1.2)
    ek (hw.below x2)).mono ?_
  rintro e w' ⟨v, rfl, h1, h2, h3⟩
  exact ⟨v, rfl, PkRow.base ⟨h1, h2⟩ (by omega), btrans x2 h3⟩
end Go.Proofs.YtpfkeohaaeiaaaaGreatDoor.frm
/- Law 13: remove. -/
namespace Go.Proofs.YtpfkeohaaeiaaaaGreatDoor.frm
open Go.RowKit Go.Maps
set_option maxRecDepth 100000
/-- what is left when the first k of the chosen ones are struck -/
def Lk (l : List Pk) (f : Pk → Bool) (k : Nat) : List Pk := l.filter fun p => !((l.filter f).take k).any fun q => q.pn == p.pn
theorem Lk_zero (l : List Pk) (f : Pk → Bool) : Lk l f 0 = l := by unfold Lk; simp
theorem Lk_succ (l : List Pk) (f : Pk → Bool) (k : Nat) (hk : k < (l.filter f).length) : (Lk l f k).filter (fun p => p.pn != ((l.filter f)[k]'hk).pn) = Lk l f (k + 1) := by
  unfold Lk
  rw [List.filter_filter, List.take_succ_eq_append_getElem hk]
  congr 1
  funext p
  simp only [List.any_append, List.any_cons, List.any_nil, Bool.or_false, Bool.not_or]
  rw [Bool.and_comm]
  congr 1
  rw [show (p.pn != ((l.filter f)[k]'hk).pn) = !(((l.filter f)[k]'hk).pn == p.pn) from by rw [bne, Bool.beq_comm]]
theorem Lk_end (l : List Pk) (f : Pk → Bool) (nx : Int) (hu : Up nx l) : Lk l f (l.filter f).length = l.filter fun p => !f p := by
  unfold Lk
  rw [List.take_length]
  refine List.filter_congr fun p hp => ?_
  congr 1
  rw [Bool.eq_iff_iff, List.any_eq_true]
  constructor
  · rintro ⟨q, hq, e⟩
    obtain ⟨h1, h2⟩ := List.mem_filter.1 hq
    have e : q.pn = p.pn := by simpa using e
    have : q = p := by
      obtain ⟨i, hi, rfl⟩ := List.getElem_of_mem h1
      obtain ⟨j, hj, rfl⟩ := List.getElem_of_mem hp
      have h3 := List.pairwise_iff_getElem.1 hu.inc
      rcases Nat.lt_trichotomy i j with h | h | h
      · have := h3 i j hi hj h; omega
      · subst h; rfl
      · have := h3 j i hj hi h; omega
    rw [← this]; exact h2
  · intro h
    exact ⟨p, List.mem_filter.2 ⟨hp, h⟩, by simp⟩
def Rc.cut (R : Rc) (f : Pk → Bool) : Rc := { R with l := R.l.filter fun p => !f p }
theorem Rc.Ok.cut {R : Rc} (h : R.Ok) (f : Pk → Bool) : (R.cut f).Ok :=
  ⟨h.up.filter _, h.n0, h.n1, h.g0, h.g1, by have := h.len; have : (R.l.filter fun p => !f p).length ≤ R.l.length := List.length_filter_le _ _; show ((R.l.filter fun p => !f p).length : Int) ≤ R.nx; omega, fun p hp => h.tm p (List.mem_filter.1 hp).1⟩
def RemPost (b M : Nat) (R : Rc) (f : Pk → Bool) (w : World) (e : Ending) (w' : World) : Prop := ∃ v, e = .returned v ∧ PkRow w.heap.size w' v (R.l.filter f) ∧ RecAt w' b M (R.cut f) ∧ Tu b M w w'
set_option maxRecDepth 100000 in
set_option maxHeartbeats 4000000 in
theorem remove_any {w : World} {b M : Nat} {R : Rc} (hR : RecAt w b M R) (ok : R.Ok) {k : Nat} {lb : Array Value} {f : Pk → Bool} (hw : Wants w k lb f R.l) (ek : ∀ args w, (callFunc k args).run Tryz.prog w = .ok (.enter k args) w) :
    Calls Tryz.prog 61 #[.pointer (some ⟨b, 0, none⟩), .func (.func k) #[] lb] w (RemPost b M R f w) := by
  have SEL := Lib.hid (sel_any hR ok hw ek)
  have HR := Lib.hid hR
  have OK := Lib.hid ok
  have hlen : (R.l.filter f).length ≤ 10000 := by have := ok.len; have := ok.n1; have := List.length_filter_le f R.l; omega
  clear hR ok hw
  go_enter Tryz.func61, Tryz.ntmps61
  go_wp2_with (first | (go_at_call 39; refine (all_any _ _).mono ?_; rintro e w' ⟨rfl, rfl⟩) | (go_at_call 38; refine SEL.out.mono ?_; rintro e w1 ⟨v, rfl, hv, hb1⟩; rcases hv.form with ⟨rfl, hl0⟩ | ⟨g, cap, cur, rfl, hpos, hcap, hm, hg, hgg, hcell⟩))
  · have hL : R.cut f = R := by
      have := Lk_end R.l f R.nx OK.out.up
      rw [hl0, List.length_nil, Lk_zero] at this
      unfold Rc.cut
      rw [← this]
    have H := Lib.hid (And.intro hv hb1)
    clear hv hb1
    refine wp_loop_rounds 1 ?_
    rw [rounds_succ]
    go_wp2
    go_ret
    refine ⟨_, rfl, H.out.1, ?_, Tu.below H.out.2⟩
    rw [hL]
    exact HR.out.below H.out.2
  · have H := Lib.hid (And.intro hv (And.intro hb1 (And.intro hg (And.intro hgg hcell))))
    have HR1 := Lib.hid (HR.out.below hb1)
    clear hv hb1 hg hgg hcell
    unfold maxLen at hm
    go_loopw [14] (fun i wr => ∃ j : Nat, j ≤ (R.l.filter f).length ∧ i = .int .i64 j ∧ RecAt wr b M { R with l := Lk R.l f j } ∧ Tu b M w1 wr) (fun i _ => (R.l.filter f).length - (intOf i).toNat)
    case atStart => exact ⟨0, by omega, rfl, by rw [Lk_zero]; exact HR1.out, Tu.refl _ _ _⟩
    case round =>
      obtain ⟨j, hj, rfl, hRj, hT⟩ := hrel
      have HJ := Lib.hid (And.intro hRj hT)
      clear hRj hT
      by_cases hlt : j < (R.l.filter f).length
      · have hgn := Lib.hid (HJ.out.2.block g (heap_lt H.out.2.2.2.1) (HR1.out.not_row H.out.2.2.2.1).1 (HR1.out.not_row H.out.2.2.2.1).2)
        have HC := Lib.hid (H.out.2.2.2.2 j hlt)
        have q0 : wr.cell? ⟨g, j * 5, none⟩ = _ := (World.cell?_of_block (a := ⟨g, j * 5, none⟩) hgn.out).trans HC.out.1
        have q1 : wr.cell? ⟨g, j * 5 + 1, none⟩ = _ := (World.cell?_of_block (a := ⟨g, j * 5 + 1, none⟩) hgn.out).trans HC.out.2.1
        have q2 : wr.cell? ⟨g, j * 5 + 2, none⟩ = _ := (World.cell?_of_block (a := ⟨g, j * 5 + 2, none⟩) hgn.out).trans HC.out.2.2.1
        have q3 : wr.cell? ⟨g, j * 5 + 3, none⟩ = _ := (World.cell?_of_block (a := ⟨g, j * 5 + 3, none⟩) hgn.out).trans HC.out.2.2.2.1
        have q4 : wr.cell? ⟨g, j * 5 + 4, none⟩ = _ := (World.cell?_of_block (a := ⟨g, j * 5 + 4, none⟩) hgn.out).trans HC.out.2.2.2.2
        have hpm : (R.l.filter f)[j]'hlt ∈ R.l := (List.mem_filter.1 (List.getElem_mem hlt)).1
        have hfv := OK.out.up.fvs _ hpm
        have hLS := Lib.hid (Lk_succ R.l f j hlt)
        have hbd := Lib.hid (And.intro (OK.out.up.bnd _ hpm) OK.out.n1)
        generalize (R.l.filter f)[j]'hlt = p at *
        obtain ⟨pn, time, size, el, fv⟩ := p
        obtain ⟨fa, fl, fc, e⟩ := hfv
        obtain rfl : fv = .slice fa fl fc := e
        simp only at q0 q1 q2 q3 q4
        have X := Lib.hid (box1 wr (.cells #[.int .i64 pn, .int .i64 time, .int .i64 size, .bool el, .slice fa fl fc] 49))
        have cb := at_whole (HJ.out.1.below X.out.2.1).1 0 rfl
        have cp := at_whole X.out.1 0 rfl
        simp only [List.getElem_toArray, List.getElem_cons_zero] at cb cp
        clear hpm
        go_wp2
        have HJ1 := Lib.hid (HJ.out.1.below X.out.2.1)
        have HT1 := Lib.hid (HJ.out.2.trans (Tu.below X.out.2.1))
        generalize wr.alloc _ = V at X cb cp HJ1 HT1 ⊢
        go_still_tail 6, (by kernel_rfl)
        obtain ⟨D, hD, hH⟩ := HJ1.out.2
        have hkey : keyOf Tryz.prog 3 (.int .i64 pn) = some (.int .i64 pn) := Maps.keyOf_int_mk Tryz.underlying3 (pnWf hbd.out.1.1 (by have := hbd.out; omega))
        refine wpList_delete_own _ rfl _ _ 78 3 rfl 49 (Maps.int_keyed Tryz.underlying3) Tryz.underlying78 _ M _ D rfl (World.ownsMap.drew hD) _ _ rfl hkey ?_
        intro w3 hown3 hturn3
        have HJ3 := Lib.hid (show RecAt w3 b M { R with l := Lk R.l f (j + 1) } from by
          have h2 := (HJ1.out.1 : V.heap[b]? = _)
          refine ⟨(hturn3.grown.block b (heap_lt h2) (fun e => HJ1.out.ne (by cases e; rfl))).trans h2, _, hown3, ?_⟩
          rw [← hLS.out]
          exact hH.del pn)
        have HT3 := Lib.hid (HT1.out.drew.trans (Tu.map hturn3.grown))
        clear hD hH hown3 hturn3 hkey cb cp q0 q1 q2 q3 q4
        go_wp2
        go_roundw
        case rel => exact ⟨j + 1, by omega, by go_num, HJ3.out, HT3.out⟩
        case measure => simp [intOf]; omega
      · obtain rfl : j = (R.l.filter f).length := by omega
        clear hlt
        go_wp2
        go_ret
        refine ⟨_, rfl, H.out.1.turn HR1.out HJ.out.2, ?_, (Tu.below H.out.2.1).trans HJ.out.2⟩
        have := HJ.out.1
        rw [Lk_end R.l f R.nx OK.out.up] at this
        exact this
end Go.Proofs.YtpfkeohaaeiaaaaGreatDoor.frm
/- Law 13: Expire, Discard, LastSent, Deadline. -/
namespace Go.Proofs.YtpfkeohaaeiaaaaGreatDoor.frm
open Go.RowKit Go.Maps
set_option maxRecDepth 100000
theorem ek39 : ∀ args w, (callFunc 63 args).run Tryz.prog w = .ok (.enter 63 args) w := enters_of Tryz.func63 (by kernel_rfl) rfl
theorem ek41 : ∀ args w, (callFunc 86 args).run Tryz.prog w = .ok (.enter 86 args) w := enters_of Tryz.func86 (by kernel_rfl) rfl
theorem ek46 : ∀ args w, (callFunc 40 args).run Tryz.prog w = .ok (.enter 40 args) w := enters_of Tryz.func40 (by kernel_rfl) rfl
theorem ek52 : ∀ args w, (callFunc 62 args).run Tryz.prog w = .ok (.enter 62 args) w := enters_of Tryz.func62 (by kernel_rfl) rfl
theorem mkf (fn : Fn) (first cap : Array Value) (w : World) : (Instr.makeFunc fn first cap).run Tryz.prog w = .ok (.func fn first cap) w := rfl
theorem RemPost.lift {w w' w'' : World} {b M : Nat} {R : Rc} {f : Pk → Bool} {v : Value} (hb : Below w.heap.size w w') (h1 : PkRow w'.heap.size w'' v (R.l.filter f)) (h2 : RecAt w'' b M (R.cut f)) (h3 : Tu b M w' w'') :
    RemPost b M R f w (.returned v) w'' := ⟨v, rfl, h1.base hb.size, h2, (Tu.below hb).trans h3⟩
set_option maxRecDepth 100000 in
set_option maxHeartbeats 4000000 in
theorem expire_any {w : World} {b M : Nat} {R : Rc} (hR : RecAt w b M R) (ok : R.Ok) (now d : Int) (hn : 0 ≤ now) (hn' : now ≤ 9223372036854775807) (hd : 0 ≤ d) (hd' : d ≤ 9223372036854775807) :
    Calls Tryz.prog 36 #[.pointer (some ⟨b, 0, none⟩), .int .i64 now, .int .i64 d] w (RemPost b M R (exF R.lg now d) w) := by
  have X := Lib.hid (box3 w (.cells #[.pointer (some ⟨b, 0, none⟩)] 30) (.cells #[.int .i64 now] 3) (.cells #[.int .i64 d] 3))
  have REM := Lib.hid (remove_any (hR.below X.out.2.2.2.1) ok (k := 63) (lb := #[.pointer (some ⟨w.heap.size, 0, none⟩), .pointer (some ⟨w.heap.size + 1, 0, none⟩), .pointer (some ⟨w.heap.size + 1 + 1, 0, none⟩)]) (f := exF R.lg now d)
    (fun p hp W hW => want39 p _ _ _ b R.lg now d W (at_whole (heap_below hW X.out.1) 0 rfl) (at_whole (heap_below hW X.out.2.1) 0 rfl) (at_whole (heap_below hW X.out.2.2.1) 0 rfl) (at_whole (heap_below hW (hR.below X.out.2.2.2.1).1) 2 rfl)
      ⟨(ok.up.bnd p hp).1, by have := (ok.up.bnd p hp).2; have := ok.n1; omega⟩ hn hn' hd hd') ek39)
  have hmf := mkf
  clear hR ok
  go_enter Tryz.func36, Tryz.ntmps36
  go_wp2_with (go_at_call 61; refine REM.out.mono ?_; rintro e w1 ⟨v, rfl, h1, h2, h3⟩)
  go_ret
  exact RemPost.lift X.out.2.2.2.1 h1 h2 h3
set_option maxRecDepth 100000 in
set_option maxHeartbeats 2000000 in
theorem discard_any {w : World} {b M : Nat} {R : Rc} (hR : RecAt w b M R) (ok : R.Ok) :
    Calls Tryz.prog 35 #[.pointer (some ⟨b, 0, none⟩)] w (RemPost b M R (fun _ => true) w) := by
  have REM := Lib.hid (remove_any hR ok (k := 62) (lb := #[]) (f := fun _ => true) (fun p hp W hW => want52 p W) ek52)
  clear hR ok
  go_enter Tryz.func35, Tryz.ntmps35
  go_wp2_with (go_at_call 61; refine REM.out.mono ?_; rintro e w1 ⟨v, rfl, h1, h2, h3⟩)
  go_ret
  exact ⟨v, rfl, h1, h2, h3⟩
end Go.Proofs.YtpfkeohaaeiaaaaGreatDoor.frm
/- Law 13: New, Next, Acked; clone, Sent and Outstanding at packets without frames. -/
namespace Go.Proofs.YtpfkeohaaeiaaaaGreatDoor.frm
open Go.RowKit Go.Maps
set_option maxRecDepth 100000
set_option maxRecDepth 100000 in
set_option maxHeartbeats 2000000 in
theorem new_any (w : World) : Calls Tryz.prog 30 #[] w fun e w' => ∃ b M, e = .returned (.pointer (some ⟨b, 0, none⟩)) ∧ w.heap.size ≤ b ∧ w.heap.size ≤ M ∧ RecAt w' b M ⟨[], 0, -1⟩ ∧ Below w.heap.size w w' := by
  have hmm := @run_makeMap Tryz.prog
  have X := Lib.hid (box2 w (.map #[] 0) (.cells #[.map (some w.heap.size), .int .i64 0, .int .i64 (-1)] 80))
  have XM := Lib.hid (MapAt.made w 3)
  go_enter Tryz.func30, Tryz.ntmps30
  go_wp2
  go_ret
  refine ⟨_, w.heap.size, rfl, by omega, Nat.le_refl _, ⟨X.out.2.1, _, (XM.out.alloc _), holds_nil⟩, X.out.2.2.1⟩
set_option maxRecDepth 100000 in
set_option maxHeartbeats 2000000 in
theorem next_any {w : World} {b M : Nat} {R : Rc} (hR : RecAt w b M R) : Calls Tryz.prog 14 #[.pointer (some ⟨b, 0, none⟩)] w fun e w' => e = .returned (.int .i64 R.nx) ∧ w = w' := by
  have c := at_whole hR.1 1 rfl
  simp only [List.getElem_toArray, List.getElem_cons_zero, List.getElem_cons_succ] at c
  clear hR
  go_enter Tryz.func14, Tryz.ntmps14
  go_wp2
  go_ret
  exact ⟨rfl, rfl⟩
def Rc.add (R : Rc) (p : Pk) : Rc := { R with l := R.l ++ [p], nx := R.nx + 1 }
theorem Rc.Ok.add {R : Rc} (h : R.Ok) (p : Pk) (hp : p.pn = R.nx) (hn : R.nx < 10000) (ht : 0 ≤ p.time ∧ p.time ≤ 1125899906842624) (hf : ∃ a n c, p.fv = .slice a n c) : (R.add p).Ok :=
  ⟨h.up.app p hp h.n0 hf, by have := h.n0; show 0 ≤ R.nx + 1; omega, by show R.nx + 1 ≤ 10000; omega, h.g0, by have := h.g1; show R.lg < R.nx + 1; omega,
   by have := h.len; show ((R.l ++ [p]).length : Int) ≤ R.nx + 1; rw [List.length_append, List.length_singleton]; omega,
   fun q hq => by
    rcases List.mem_append.1 hq with hq | hq
    · exact h.tm q hq
    · rw [List.mem_singleton.1 hq]; exact ht⟩
end Go.Proofs.YtpfkeohaaeiaaaaGreatDoor.frm
/- Law 13: Outstanding at packets without frames. -/
namespace Go.Proofs.YtpfkeohaaeiaaaaGreatDoor.frm
open Go.RowKit Go.Maps
set_option maxRecDepth 100000
theorem setCell_self {w : World} {b i : Nat} {v : Value} (h : w.cell? ⟨b, i, none⟩ = some v) : w.setCell ⟨b, i, none⟩ v = w := by
  have hb : ∃ cs T fz, w.heap[b]? = some (.cells cs T fz) ∧ cs[i]? = some v := by
    unfold World.cell? at h
    split at h
    · rename_i c T fz e
      exact ⟨c, T, fz, e, by simpa using h⟩
    · cases h
  obtain ⟨cs, T, fz, hh, hc⟩ := hb
  have hs : cs.setIfInBounds i v = cs := by
    obtain ⟨hi, he⟩ := Array.getElem?_eq_some_iff.1 hc
    subst he
    exact Array.ext_getElem? (fun k => by
      by_cases e : i = k
      · subst e; simp [hi]
      · simp [e])
  have e : (w.setCell ⟨b, i, none⟩ v).heap = w.heap := by
    refine Array.ext_getElem? (fun k => ?_)
    by_cases e : k = b
    · subst e
      have : (w.setCell ⟨k, i, none⟩ v).heap[k]? = some (.cells (cs.setIfInBounds i v) T fz) := by simp [World.setCell, Array.getElem?_modify, hh]
      rw [this, hs, hh]
    · exact heap_setCell_other w _ k v (fun e2 => e e2)
  show World.setCell w _ v = w
  unfold World.setCell at e ⊢
  cases w
  simp only at e ⊢
  rw [e]
theorem filter_true (l : List Pk) : l.filter (fun _ => true) = l := List.filter_eq_self.2 (fun _ _ => rfl)
end Go.Proofs.YtpfkeohaaeiaaaaGreatDoor.frm
