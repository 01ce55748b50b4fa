/- Texts Base Sh Si Obj Map A B F G T of this claim, one behind the other. -/
import Derived.WalkKit
import Derived.ProofKit
import Derived.OpenShut
import Derived.Below
import Derived.ChangeSame
import Derived.Lib.Hide
import Derived.Handy
import Derived.ChangeBook
import Derived.ChangeStays
import Derived.ChangeSlices
import Derived.Test.YtpfkeohaaeiaaaaGreatProg
import Derived.Shelf.Strings.Builder1
import Derived.Shelf.Sort.Plain
import Derived.Shelf.Slices.In.SortNone
import Derived.Shelf.SlIterI.Nil
import Derived.Shelf.SlIterI.Sorted
import Derived.Laws.Rows
import Derived.Laws.AppendOwn
import Derived.Deep.Quiet
import Derived.Maps.OwnOps
import Derived.Maps.OwnSet
import Derived.Maps.Views
import Derived.RangeFuncNested
import Derived.RangeFuncBound
import Derived.RangeFuncCalls
import Derived.RangeFuncLeaves
import Derived.Shelf.Abstract
import Derived.Shelf.RegionOpen
import Derived.OwnWalkIn
import Derived.TacticsInMore
import Derived.LoopNIn
import Derived.LoopIn
import Derived.Laws.EntriesVeiled
import Derived.Stop.RegionWithIn
import Derived.RangeFuncBox
import Derived.Maps.AppendAt
import Derived.Laws.BytesArg
/- Small lemmas on worlds that every text of this seat uses: what lies below a heap's size stays, and the row's last step from 'Below' alone. -/
namespace Go.Proofs.YtpfkeohaaeiaaaaGreat
open Go.RowKit Go.WideShapes Go.ChangeShapes
theorem btrans {a b c : World} (h : Below a.heap.size a b) (k : Below b.heap.size b c) : Below a.heap.size a c := h.trans (k.mono h.size)
theorem bcell {W w1 : World} (hb : Below W.heap.size W w1) : (∀ b o, b < W.heap.size → w1.cell? ⟨b, o, none⟩ = W.cell? ⟨b, o, none⟩) ∧ (∀ b o, b < W.heap.size → w1.frozen? ⟨b, o, none⟩ = W.frozen? ⟨b, o, none⟩) :=
  ⟨fun b o h => hb.cell (p := ⟨b, o, none⟩) h, fun b o h => hb.frozen (p := ⟨b, o, none⟩) h⟩
section
variable {H : Type} {enc : TypeId × Value → H} {P : Program}
theorem post_of_below {f : Func} {s : ChangeSpec} {apart fresh handsOn again : Bool} {W W' : World} {args : Array Value} {v : Value} {ds gs : List (DataW H)} {before pa pv : List MemPlace}
    (hW : DataW.Whole enc P f.params.toList s.vars apart W args.toList ds gs before)
    (hres : ∀ (b : Nat) (sp : Nat → Bool) (hd : Bool), DataW.TrodAll enc P W' b sp hd f.resultTypes.toList (v.resultList f.resultTypes.size) (s.fn H (ds ++ gs)).results [])
    (hargs : ∀ sp : Nat → Bool, (∀ p ∈ before, sp p.block = true) → DataW.TrodAll enc P W' 0 sp true f.params.toList args.toList (s.fn H (ds ++ gs)).args pa)
    (hvars : ∀ sp : Nat → Bool, (∀ p ∈ before, sp p.block = true) → DataW.TrodVars enc P W' sp s.vars (s.fn H (ds ++ gs)).vars pv)
    (hps : before = pa ++ pv) (hb : Below W.heap.size W W')
    (hok : ∀ (j : Nat) (t : TypeId) (r : Value), f.resultTypes[j]? = some t → (v.resultList f.resultTypes.size)[j]? = some r → Value.okWide P W' .any 0 t r) :
    s.post enc P f apart fresh handsOn again W args v W' := by
  have hlt : ∀ p ∈ before, p.block < W.heap.size := fun p hp => hW.lt p hp
  have hold : ∀ p ∈ before, (fun b => decide (b < W.heap.size)) p.block = true := fun p hp => by simpa using hlt p hp
  refine ⟨ds, gs, before, [], pa, pv, hW, hres _ _ _, hargs _ hold, hvars _ hold, World.keptBut_mono (fun p hp => ⟨hp, ?_⟩) (hb.frame (· ∈ before)), fun _ => ?_⟩
  · rw [hps, List.mem_append] at hp
    exact Or.inr hp
  · obtain ⟨_, _, _, _, _, hz, hn⟩ := hW
    refine ⟨hok, _, _, ([] ++ pa) ++ pv, ⟨[] ++ pa, pv, trodAll_append (hargs _ (fun _ _ => rfl)) (hres _ _ _), hvars _ (fun _ _ => rfl), rfl, ?_, ?_⟩, ?_⟩
    · intro b off hp
      have hin : MemPlace.cell b off ∈ before := by rw [hps]; simpa using hp
      rw [hb.frozen (hlt _ hin)]
      exact hz b off hin
    · intro ha
      have := hn ha
      rw [hps] at this
      simpa using this
    · intro p hp _
      rw [hps]
      simpa using hp

theorem laidOut' : laidOutB Tryz.prog = true := by kernel_rfl
/-- an argument reads again behind a call that leaves alone what lay below -/
theorem again1 {W W' : World} {t : TypeId} {v : Value} {d : DataW H} {p : List MemPlace} (hr : Tryz.prog.readableRec t = true) (hrow : decide (t < Tryz.prog.types.size) = true)
    (h : DataW.Trod enc Tryz.prog W 0 (fun _ => true) true t v d p) (hb : Below W.heap.size W W') (hlt : ∀ q ∈ p, q.block < W.heap.size) (sp : Nat → Bool) (hsp : ∀ q ∈ p, sp q.block = true) :
    DataW.Trod enc Tryz.prog W' 0 sp true t v d p := by
  obtain ⟨fuel, h⟩ := h
  exact ⟨fuel, DataW.trod_stays (kids_book laidOut' hr) (book_sized hr) (fun h => by cases h) ⟨of_decide_eq_true hrow, book_self t⟩ h (fun x hx => hb.same (hlt x hx)) hsp⟩
end
/-- the slice value v holds the integers zs of kind k -/
def IntsAt (k : IntKind) (w : World) (v : Value) (zs : List Int) : Prop :=
  (∃ a cap, v = .slice a 0 cap ∧ (a = none → cap = 0) ∧ zs = []) ∨
  (∃ b off cap, v = .slice (some ⟨b, off, none⟩) zs.length cap ∧ 0 < zs.length ∧ zs.length ≤ cap ∧ cap ≤ maxLen ∧ ∀ j, j < zs.length → w.cell? ⟨b, off + j, none⟩ = some (.int k (zs[j]?.getD 0)))
theorem cell_spot {w : World} {a : Addr} {v : Value} (h : w.cell? a = some v) : a = ⟨a.block, a.off, none⟩ := by
  obtain ⟨b, o, s⟩ := a
  unfold World.cell? at h
  cases s with
  | none => rfl
  | some x => simp at h; split at h <;> simp_all
theorem add_plain (b o i : Nat) : (⟨b, o, none⟩ : Addr).add i = ⟨b, o + i, none⟩ := by unfold Addr.add; split <;> simp_all
set_option maxRecDepth 100000 in
theorem ints_at {H : Type} {enc : TypeId × Value → H} {W : World} {base : Nat} {held : Bool} {t e : TypeId} {k : IntKind} {v : Value} {d : DataW H} {p : List MemPlace}
    (ht : Tryz.prog.underlying t = some (.slice e)) (he : Tryz.prog.underlying e = some (.int k)) (hc : Tryz.prog.cellsOf e = 1) (hv : Value.okWide Tryz.prog W .any base t v)
    (h : DataW.Trod enc Tryz.prog W 0 (fun _ => true) held t v d p) : ∃ zs, IntsAt k W v zs ∧ zs.length ≤ maxLen ∧ ∀ n ∈ zs, (Lit.int k n).wf = true := by
  obtain ⟨a0, len, cap, rfl⟩ := okWide_slice ht hv
  obtain ⟨fuel, hf⟩ := h
  rcases open_ints ht he hc hf with ⟨hcs, hx⟩ | ⟨a, len', cap', zs, hcs, _, hl, hm, hz, hx, hcell, hwz⟩
  · simp [Value.cells] at hcs
    obtain ⟨rfl, rfl, rfl⟩ := hcs
    exact ⟨[], .inl ⟨_, _, rfl, fun _ => rfl, rfl⟩, by simp, by simp⟩
  · simp [Value.cells] at hcs
    obtain ⟨rfl, rfl, rfl⟩ := hcs
    simp only [if_true] at hz
    rcases Nat.eq_zero_or_pos len with h0 | h0
    · subst h0
      exact ⟨[], .inl ⟨_, _, rfl, (fun h => by cases h), rfl⟩, by simp, by simp⟩
    · refine ⟨zs.take len, .inr ?_, by rw [List.length_take]; omega, fun n hn => hwz n (List.mem_of_mem_take hn)⟩
      have hc0 := cell_spot (hcell 0 (by omega))
      have hlen : (zs.take len).length = len := by rw [List.length_take]; omega
      obtain ⟨b, o, s⟩ := a
      obtain rfl : s = none := by
        simp only [Addr.add, if_true] at hc0
        exact congrArg Addr.spot hc0
      refine ⟨b, o, cap, by rw [hlen], by omega, by omega, hm, fun j hj => ?_⟩
      rw [hlen] at hj
      have := hcell j (by omega)
      rw [add_plain] at this
      rw [this, List.getElem?_take_of_lt hj, List.getD_eq_getElem?_getD]
theorem IntsAt.below {k : IntKind} {w w' : World} {v : Value} {zs : List Int} (h : IntsAt k w v zs) (hb : Below w.heap.size w w') : IntsAt k w' v zs := by
  rcases h with h | ⟨b, off, cap, h1, h2, h3, h4, h5⟩
  · exact .inl h
  · exact .inr ⟨b, off, cap, h1, h2, h3, h4, fun j hj => (hb.cell (p := ⟨b, off + j, none⟩) (World.block_lt_of_cell? _ _ (h5 j hj))).trans (h5 j hj)⟩
theorem IntsAt.form {k : IntKind} {w : World} {v : Value} {zs : List Int} (h : IntsAt k w v zs) : ∃ a cap, v = .slice a zs.length cap ∧ zs.length ≤ cap := by
  rcases h with ⟨a, cap, rfl, _, rfl⟩ | ⟨b, off, cap, rfl, h0, hl, hc, hx⟩
  · exact ⟨a, cap, rfl, Nat.zero_le _⟩
  · exact ⟨_, cap, rfl, hl⟩
theorem IntsAt.take {k : IntKind} {w : World} {a : Option Addr} {cap : Nat} {zs : List Int} (h : IntsAt k w (.slice a zs.length cap) zs) (m : Nat) (hm : m ≤ zs.length) : IntsAt k w (.slice a m cap) (zs.take m) := by
  have hlen : (zs.take m).length = m := by rw [List.length_take]; omega
  rcases h with ⟨a', cap', e, hn, rfl⟩ | ⟨b, off, cap', e, h0, hl, hc, hx⟩
  · cases e
    simp at hm; subst hm
    exact .inl ⟨_, _, rfl, hn, rfl⟩
  · cases e
    rcases Nat.eq_zero_or_pos m with h1 | h1
    · subst h1; exact .inl ⟨_, _, rfl, (fun h => by cases h), rfl⟩
    · refine .inr ⟨b, off, cap, by rw [hlen], by omega, by omega, hc, fun j hj => ?_⟩
      rw [hlen] at hj
      rw [hx j (by omega), List.getElem?_take_of_lt hj]
end Go.Proofs.YtpfkeohaaeiaaaaGreat
/- Law 13: the library's contracts for Builder.String and slices.Sort at []int, laid by the kit's lay-shelf.mjs and lay-plain.mjs (taken from what they print). -/
namespace Go.Proofs
open Go.Shelf
def Tryz.lays169_ren : Go.Shelf.Ren := ⟨fun | 169 => 101 | n => n, fun | 70 => 138 | 9 => 9 | 0 => 0 | 72 => 140 | 37 => 113 | 127 => 165 | 3 => 3 | 5 => 5 | n => n, fun | n => n⟩
theorem Tryz.lays169 : Go.Proofs.Lays.n169 Tryz.prog Tryz.lays169_ren := {
  mixed := by kernel_rfl
  f169 := Tryz.func101.trans (congrArg some (by kernel_rfl))
  t0 := Tryz.underlying0
  a0 := Tryz.isAgg0
  z0 := Tryz.sizeOf0
  v0 := Tryz.zeroValue0
  t3 := Tryz.underlying3
  a3 := Tryz.isAgg3
  z3 := Tryz.sizeOf3
  v3 := Tryz.zeroValue3
  t9 := Tryz.underlying9
  a9 := Tryz.isAgg9
  z9 := Tryz.sizeOf9
  v9 := Tryz.zeroValue9
  t37 := Tryz.underlying113
  a37 := Tryz.isAgg113
  z37 := Tryz.sizeOf113
  v37 := Tryz.zeroValue113
  t70 := Tryz.underlying138
  a70 := Tryz.isAgg138
  z70 := Tryz.sizeOf138
  v70 := Tryz.zeroValue138
  t72 := Tryz.underlying140
  a72 := Tryz.isAgg140
  z72 := Tryz.sizeOf140
  v72 := Tryz.zeroValue140
  t127 := Tryz.underlying165
  a127 := Tryz.isAgg165
  z127 := Tryz.sizeOf165
  v127 := Tryz.zeroValue165 }
theorem Tryz.Builder_Extra_169 : Builder.Extra Tryz.prog Tryz.lays169_ren := {
  sizeBuilder := by kernel_rfl
  liesBuilder := by kernel_rfl
  t5 := Tryz.underlying5
  a5 := Tryz.isAgg5
  z5 := Tryz.sizeOf5
  v5 := Tryz.zeroValue5
  infoByte := by kernel_rfl
  cellsByte := by kernel_rfl
  sizeByte := by kernel_rfl
  neB5 := by decide }
open Go.RowKit in
/-- (*strings.Builder).String: "String returns the accumulated string.": OF A BUILDER THAT HOLDS AT LEAST ONE BYTE. ✋ THE MODEL FREEZES THOSE BYTES IN THE BUFFER (unsafe.String): a later write INTO them ends the model's run without an answer; a later append BEHIND them goes on. The statement's order of evaluation is drawn: one draw. (LAID: no walk: one application.) -/
theorem Tryz.Builder_String (B b : Nat) (l : List UInt8) (w : World) (h : Lib.IsBuilder 140 5 B b (Lib.byteCells l) w) (h0 : l ≠ []) :
    Calls Tryz.prog 101 #[.pointer (some ⟨b, 0, none⟩)] w fun e w' => e = .returned (.string ⟨l.toArray⟩) ∧ Below B w w' := Any.Builder_String Tryz.lays169 Tryz.Builder_Extra_169 B b l w h h0
open Go.RowKit in
/-- (*strings.Builder).String OF A BUILDER THAT HOLDS NO BYTE: the empty string. (Its buffer is nil, or a row of which it has taken nothing yet; where that row has NO capacity the model lays one new block for unsafe.SliceData's 'some address'.) One draw. (LAID: no walk: one application.) -/
theorem Tryz.Builder_String_empty (B b : Nat) (w : World) (h : Lib.IsBuilder 140 5 B b [] w) (hBw : B ≤ w.heap.size) :
    Calls Tryz.prog 101 #[.pointer (some ⟨b, 0, none⟩)] w fun e w' => e = .returned (.string ⟨#[]⟩) ∧ Below B w w' := Any.Builder_String_empty Tryz.lays169 Tryz.Builder_Extra_169 B b w h hBw
open Go.RowKit in
/-- (*strings.Builder).String: "String returns the accumulated string.": WHATEVER THE BUILDER HOLDS. (LAID: no walk: one application.) -/
theorem Tryz.Builder_String_any (B b : Nat) (l : List UInt8) (w : World) (h : Lib.IsBuilder 140 5 B b (Lib.byteCells l) w) (hBw : B ≤ w.heap.size) :
    Calls Tryz.prog 101 #[.pointer (some ⟨b, 0, none⟩)] w fun e w' => e = .returned (.string ⟨l.toArray⟩) ∧ Below B w w' := Any.Builder_String_any Tryz.lays169 Tryz.Builder_Extra_169 B b l w h hBw
def Tryz.lays189_ren : Go.Shelf.Ren := ⟨fun | 189 => 65 | 125 => 87 | 257 => 86 | 128 => 116 | 129 => 117 | 294 => 107 | 295 => 108 | 296 => 109 | 297 => 110 | 298 => 111 | 299 => 112 | 216 => 113 | 300 => 114 | 301 => 115 | 328 => 121 | 329 => 122 | 330 => 123 | 331 => 124 | 332 => 125 | 215 => 126 | 343 => 132 | n => n, fun | 28 => 22 | 3 => 3 | 46 => 134 | 0 => 0 | 51 => 156 | 53 => 158 | 4 => 4 | 183 => 148 | 182 => 147 | 131 => 153 | 5 => 5 | 9 => 9 | 218 => 166 | 222 => 123 | 228 => 178 | 229 => 179 | n => n, fun | n => n⟩
theorem Tryz.lays189 : Go.Proofs.Lays.n189 Tryz.prog Tryz.lays189_ren := {
  mixed := by kernel_rfl
  f125 := Tryz.func87.trans (congrArg some (by kernel_rfl))
  f128 := Tryz.func116.trans (congrArg some (by kernel_rfl))
  f129 := Tryz.func117.trans (congrArg some (by kernel_rfl))
  f189 := Tryz.func65.trans (congrArg some (by kernel_rfl))
  f215 := Tryz.func126.trans (congrArg some (by kernel_rfl))
  f216 := Tryz.func113.trans (congrArg some (by kernel_rfl))
  f257 := Tryz.func86.trans (congrArg some (by kernel_rfl))
  f294 := Tryz.func107.trans (congrArg some (by kernel_rfl))
  f295 := Tryz.func108.trans (congrArg some (by kernel_rfl))
  f296 := Tryz.func109.trans (congrArg some (by kernel_rfl))
  f297 := Tryz.func110.trans (congrArg some (by kernel_rfl))
  f298 := Tryz.func111.trans (congrArg some (by kernel_rfl))
  f299 := Tryz.func112.trans (congrArg some (by kernel_rfl))
  f300 := Tryz.func114.trans (congrArg some (by kernel_rfl))
  f301 := Tryz.func115.trans (congrArg some (by kernel_rfl))
  f328 := Tryz.func121.trans (congrArg some (by kernel_rfl))
  f329 := Tryz.func122.trans (congrArg some (by kernel_rfl))
  f330 := Tryz.func123.trans (congrArg some (by kernel_rfl))
  f331 := Tryz.func124.trans (congrArg some (by kernel_rfl))
  f332 := Tryz.func125.trans (congrArg some (by kernel_rfl))
  f343 := Tryz.func132.trans (congrArg some (by kernel_rfl))
  t0 := Tryz.underlying0
  a0 := Tryz.isAgg0
  z0 := Tryz.sizeOf0
  v0 := Tryz.zeroValue0
  t3 := Tryz.underlying3
  a3 := Tryz.isAgg3
  z3 := Tryz.sizeOf3
  v3 := Tryz.zeroValue3
  t4 := Tryz.underlying4
  a4 := Tryz.isAgg4
  z4 := Tryz.sizeOf4
  v4 := Tryz.zeroValue4
  t5 := Tryz.underlying5
  a5 := Tryz.isAgg5
  z5 := Tryz.sizeOf5
  v5 := Tryz.zeroValue5
  t9 := Tryz.underlying9
  a9 := Tryz.isAgg9
  z9 := Tryz.sizeOf9
  v9 := Tryz.zeroValue9
  t28 := Tryz.underlying22
  a28 := Tryz.isAgg22
  z28 := Tryz.sizeOf22
  v28 := Tryz.zeroValue22
  t46 := Tryz.underlying134
  a46 := Tryz.isAgg134
  z46 := Tryz.sizeOf134
  v46 := Tryz.zeroValue134
  t51 := Tryz.underlying156
  a51 := Tryz.isAgg156
  z51 := Tryz.sizeOf156
  v51 := Tryz.zeroValue156
  t53 := Tryz.underlying158
  a53 := Tryz.isAgg158
  z53 := Tryz.sizeOf158
  v53 := Tryz.zeroValue158
  t131 := Tryz.underlying153
  a131 := Tryz.isAgg153
  z131 := Tryz.sizeOf153
  v131 := Tryz.zeroValue153
  t182 := Tryz.underlying147
  a182 := Tryz.isAgg147
  z182 := Tryz.sizeOf147
  v182 := Tryz.zeroValue147
  t183 := Tryz.underlying148
  a183 := Tryz.isAgg148
  z183 := Tryz.sizeOf148
  v183 := Tryz.zeroValue148
  t218 := Tryz.underlying166
  a218 := Tryz.isAgg166
  z218 := Tryz.sizeOf166
  v218 := Tryz.zeroValue166
  t222 := Tryz.underlying123
  a222 := Tryz.isAgg123
  z222 := Tryz.sizeOf123
  v222 := Tryz.zeroValue123
  t228 := Tryz.underlying178
  a228 := Tryz.isAgg178
  z228 := Tryz.sizeOf178
  v228 := Tryz.zeroValue178
  t229 := Tryz.underlying179
  a229 := Tryz.isAgg179
  z229 := Tryz.sizeOf179
  v229 := Tryz.zeroValue179 }
open Go.Sort Go.RowKit in
theorem Tryz.slices_Sort_int (blk off cap : Nat) (zs : List Int) (w : World) (hH : Holds (Value.int .i64) w blk off zs.toArray) (hblk : blk < w.heap.size) (hsz : zs.length < 4611686018427387904) :
    Calls Tryz.prog 65 #[.slice (some ⟨blk, off, none⟩) zs.length cap] w fun e w' =>
      e = .returned (.tuple #[]) ∧ ∃ n os, w' = grow (putRow (Value.int .i64) (Sort.ahead w n) blk off (zs.mergeSort fun x y => decide (x ≤ y)).toArray) os := Any.slices_Sort_int Tryz.lays189 blk off cap zs w hH hblk hsz
open Go.RowKit Go.Sort in
/-- .. and plain. (LAID: no walk: one application.) -/
theorem Tryz.slices_Sort_int_none (p : Option Addr) (cap : Nat) (w : World) :
    Calls Tryz.prog 65 #[.slice p 0 cap] w fun e w' => e = .returned (.tuple #[]) ∧ w' = w := Any.slices_Sort_int_none Tryz.lays189 p cap w
end Go.Proofs
/- Law 13: the library's contracts for maps.Keys and slices.Sorted, laid by the kit's shelf_lay_g and lay-plain.mjs (as they print them). -/
namespace Go.Proofs
open Go.Shelf
def Tryz.keysL_ren : Go.Shelf.Ren := ⟨fun | 7 => 58 | 10 => 66 | n => n, fun | 23 => 57 | 26 => 3 | 3 => 39 | 28 => 104 | 0 => 0 | 27 => 103 | 33 => 72 | 4 => 4 | n => n, fun | n => n⟩
theorem Tryz.keysL : Go.Proofs.SlLaysZI.n7 Tryz.prog Tryz.keysL_ren := {
  mixed := by kernel_rfl
  f7 := ⟨Tryz.f58.name, by decide, Tryz.func58.trans (congrArg some (by kernel_rfl))⟩
  f10 := ⟨Tryz.f66.name, by decide, Tryz.func66.trans (congrArg some (by kernel_rfl))⟩
  t0 := Tryz.underlying0
  a0 := Tryz.isAgg0
  z0 := Tryz.sizeOf0
  v0 := Tryz.zeroValue0
  t4 := Tryz.underlying4
  a4 := Tryz.isAgg4
  z4 := Tryz.sizeOf4
  v4 := Tryz.zeroValue4
  t23 := Tryz.underlying57
  a23 := Tryz.isAgg57
  z23 := Tryz.sizeOf57
  v23 := Tryz.zeroValue57
  t26 := Tryz.underlying3
  a26 := Tryz.isAgg3
  z26 := Tryz.sizeOf3
  v26 := Tryz.zeroValue3
  t27 := Tryz.underlying103
  a27 := Tryz.isAgg103
  z27 := Tryz.sizeOf103
  v27 := Tryz.zeroValue103
  t28 := Tryz.underlying104
  a28 := Tryz.isAgg104
  z28 := Tryz.sizeOf104
  v28 := Tryz.zeroValue104
  t33 := Tryz.underlying72
  a33 := Tryz.isAgg72
  z33 := Tryz.sizeOf72
  v33 := Tryz.zeroValue72 }
def Tryz.sortedL_ren : Go.Shelf.Ren := ⟨fun | 6 => 57 | 8 => 64 | 9 => 65 | 11 => 85 | 13 => 87 | 12 => 86 | 23 => 116 | 24 => 117 | 14 => 107 | 15 => 108 | 16 => 109 | 17 => 110 | 18 => 111 | 19 => 112 | 20 => 113 | 21 => 114 | 22 => 115 | 25 => 121 | 26 => 122 | 27 => 123 | 28 => 124 | 29 => 125 | 30 => 126 | 31 => 132 | n => n, fun | 26 => 3 | 28 => 104 | 24 => 22 | 0 => 0 | 3 => 3 | 37 => 134 | 48 => 156 | 50 => 158 | 4 => 4 | 40 => 148 | 39 => 147 | 45 => 153 | 5 => 5 | 9 => 9 | 51 => 166 | 55 => 123 | 57 => 178 | 58 => 179 | 33 => 72 | n => n, fun | n => n⟩
theorem Tryz.sortedL : Go.Proofs.SlLaysZI.n6 Tryz.prog Tryz.sortedL_ren := {
  mixed := by kernel_rfl
  f6 := ⟨Tryz.f57.name, by decide, Tryz.func57.trans (congrArg some (by kernel_rfl))⟩
  f8 := ⟨Tryz.f64.name, by decide, Tryz.func64.trans (congrArg some (by kernel_rfl))⟩
  f11 := ⟨Tryz.f85.name, by decide, Tryz.func85.trans (congrArg some (by kernel_rfl))⟩
  t0 := Tryz.underlying0
  a0 := Tryz.isAgg0
  z0 := Tryz.sizeOf0
  v0 := Tryz.zeroValue0
  t24 := Tryz.underlying22
  a24 := Tryz.isAgg22
  z24 := Tryz.sizeOf22
  v24 := Tryz.zeroValue22
  t26 := Tryz.underlying3
  a26 := Tryz.isAgg3
  z26 := Tryz.sizeOf3
  v26 := Tryz.zeroValue3
  t28 := Tryz.underlying104
  a28 := Tryz.isAgg104
  z28 := Tryz.sizeOf104
  v28 := Tryz.zeroValue104
  i26 := by kernel_rfl }
end Go.Proofs
/- Blocks known whole: what a store, a new block and a callee leave of them. -/
namespace Go.Proofs.YtpfkeohaaeiaaaaGreat
open Go.RowKit
theorem grown_refl (w : World) (r : Option Nat) : w.grownBy w r := ⟨rfl, rfl, rfl, Nat.le_refl _, fun _ _ _ => rfl⟩
theorem grown_trans {a b c : World} {r : Option Nat} (h : a.grownBy b r) (k : b.grownBy c r) : a.grownBy c r :=
  ⟨k.os.trans h.os, k.tape.trans h.tape, k.output.trans h.output, Nat.le_trans h.size k.size, fun i hi hr => (k.block i (Nat.lt_of_lt_of_le hi h.size) hr).trans (h.block i hi hr)⟩
theorem grown_set {a w : World} {b i : Nat} (h : a.grownBy w (some b)) (v : Value) : a.grownBy (w.setCell ⟨b, i, none⟩ v) (some b) :=
  ⟨h.os, h.tape, h.output, by simpa using h.size, fun k hk hr => (heap_setCell_other w _ k v (fun e => hr (by rw [e]))).trans (h.block k hk hr)⟩
theorem grown_drew {a w : World} {r : Option Nat} (h : a.grownBy w r) : a.grownBy w.drew r := ⟨h.os, h.tape, h.output, h.size, h.block⟩
theorem grown_alloc {a w : World} {r : Option Nat} (h : a.grownBy w r) (o : Obj) : a.grownBy (w.alloc o) r :=
  ⟨h.os, h.tape, h.output, by simp; exact Nat.le_succ_of_le h.size, fun k hk hr => (Below.heap_alloc w o k (Nat.lt_of_lt_of_le hk h.size)).trans (h.block k hk hr)⟩
theorem grown_below {w w' : World} {r : Option Nat} (h : Below w.heap.size w w') : w.grownBy w' r := ⟨h.os, h.tape, h.output, h.size, fun k hk _ => h.block k hk⟩
/-- a block of its own: what was below stays -/
theorem below_grown {a w w' : World} {b : Nat} (hB : Below a.heap.size a w) (h : w.grownBy w' (some b)) (hb : a.heap.size ≤ b) : Below a.heap.size a w' :=
  hB.grown h hB.size (fun k e => by cases e; exact hb)
theorem heap_grown {w w' : World} {b k : Nat} {o : Obj} (h : w.grownBy w' (some b)) (hk : w.heap[k]? = some o) (hne : k ≠ b) : w'.heap[k]? = some o :=
  (h.block k (Array.getElem?_eq_some_iff.1 hk).1 (fun e => hne (by cases e; rfl))).trans hk
theorem heap_below {w w' : World} {k : Nat} {o : Obj} (h : Below w.heap.size w w') (hk : w.heap[k]? = some o) : w'.heap[k]? = some o :=
  (h.block k (Array.getElem?_eq_some_iff.1 hk).1).trans hk
theorem cell_whole {w : World} {b : Nat} {cs : Array Value} {T : TypeId} (h : w.heap[b]? = some (.cells cs T (0, 0))) (j : Nat) : w.cell? ⟨b, j, none⟩ = cs[j]? := cell_of_row w b j cs T (0, 0) h
theorem frozen_whole {w : World} {b : Nat} {cs : Array Value} {T : TypeId} (h : w.heap[b]? = some (.cells cs T (0, 0))) (j : Nat) : w.frozen? ⟨b, j, none⟩ = false := by
  simp [World.frozen?, h]
theorem heap_lt {w : World} {b : Nat} {o : Obj} (h : w.heap[b]? = some o) : b < w.heap.size := (Array.getElem?_eq_some_iff.1 h).1
theorem heap_set {w : World} {b i : Nat} {cs : Array Value} {T : TypeId} (v : Value) (h : w.heap[b]? = some (.cells cs T (0, 0))) : (w.setCell ⟨b, i, none⟩ v).heap[b]? = some (.cells (cs.setIfInBounds i v) T (0, 0)) :=
  heap_setCell_same w b i cs T v h
/-- block b has come to hold cs; nothing else that lay in w has turned -/
def Blk (b : Nat) (cs : Array Value) (T : TypeId) (w w' : World) : Prop := w'.heap[b]? = some (.cells cs T (0, 0)) ∧ w.grownBy w' (some b)
theorem Blk.start {b : Nat} {cs : Array Value} {T : TypeId} {w : World} (h : w.heap[b]? = some (.cells cs T (0, 0))) : Blk b cs T w w := ⟨h, grown_refl _ _⟩
theorem Blk.set {b : Nat} {cs : Array Value} {T : TypeId} {w w' : World} (h : Blk b cs T w w') (i : Nat) (v : Value) : Blk b (cs.setIfInBounds i v) T w (w'.setCell ⟨b, i, none⟩ v) := ⟨heap_set v h.1, grown_set h.2 v⟩
theorem Blk.drew {b : Nat} {cs : Array Value} {T : TypeId} {w w' : World} (h : Blk b cs T w w') : Blk b cs T w w'.drew := ⟨h.1, grown_drew h.2⟩
theorem Blk.alloc {b : Nat} {cs : Array Value} {T : TypeId} {w w' : World} (h : Blk b cs T w w') (o : Obj) : Blk b cs T w (w'.alloc o) := ⟨(Below.heap_alloc w' o b (heap_lt h.1)).trans h.1, grown_alloc h.2 o⟩
theorem Blk.trans {b : Nat} {cs cs' : Array Value} {T : TypeId} {w w' w'' : World} (h : Blk b cs T w w') (k : Blk b cs' T w' w'') : Blk b cs' T w w'' := ⟨k.1, grown_trans h.2 k.2⟩
theorem Blk.below {b : Nat} {cs : Array Value} {T : TypeId} {w w' w'' : World} (h : Blk b cs T w w') (k : Below w'.heap.size w' w'') : Blk b cs T w w'' := ⟨heap_below k h.1, grown_trans h.2 (grown_below k)⟩
theorem Blk.cast {b : Nat} {cs cs' : Array Value} {T : TypeId} {w w' : World} (h : Blk b cs T w w') (e : cs = cs') : Blk b cs' T w w' := e ▸ h
theorem Blk.drewN {b : Nat} {cs : Array Value} {T : TypeId} {w w' : World} (h : Blk b cs T w w') (n : Nat) : Blk b cs T w (w'.drewN n) := ⟨h.1, ⟨h.2.os, h.2.tape, h.2.output, h.2.size, h.2.block⟩⟩
end Go.Proofs.YtpfkeohaaeiaaaaGreat
/- Maps of the call's own whose elements may be of any type: the elements are carried as they are (a reading that hands on the value itself). -/
namespace Go.Proofs.YtpfkeohaaeiaaaaGreat
open Go.RowKit Go.Maps
/-- an element reads as itself -/
def self (v : Value) : Option (DataW Value × List MemPlace) := some (.held v, [])
/-- block b is a map of at most n entries that holds D; the keys are of type k -/
def MapAt (w : World) (k : TypeId) (b n : Nat) (D : DataW Value) : Prop := w.ownsMap Tryz.prog k self b n D
theorem MapAt.made (w : World) (k : TypeId) : MapAt (w.alloc (.map #[] 0)) k w.heap.size 0 (.map []) := World.ownsMap_made _ _ _ _
theorem MapAt.lt {w : World} {k : TypeId} {b n : Nat} {D : DataW Value} (h : MapAt w k b n D) : b < w.heap.size := World.ownsMap.lt h
theorem MapAt.grown {w w' : World} {k : TypeId} {b n : Nat} {D : DataW Value} {r : Option Nat} (h : MapAt w k b n D) (hg : w.grownBy w' r) (hne : some b ≠ r) : MapAt w' k b n D := World.ownsMap.kept h hg hne
theorem MapAt.below {w w' : World} {k : TypeId} {b n : Nat} {D : DataW Value} (h : MapAt w k b n D) (hb : Below w.heap.size w w') : MapAt w' k b n D := h.grown (grown_below (r := none) hb) (by simp)
theorem MapAt.alloc {w : World} {k : TypeId} {b n : Nat} {D : DataW Value} (h : MapAt w k b n D) (o : Obj) : MapAt (w.alloc o) k b n D := World.ownsMap.alloc h o
theorem MapAt.look {w : World} {k : TypeId} {b n : Nat} {D : DataW Value} (h : MapAt w k b n D) {t e : TypeId} (K : Keyed Tryz.prog k) (ht : Tryz.prog.underlying t = some (.map k e)) {z : Value} (hz : (zeroValue e).run Tryz.prog w = .ok z w)
    {key : Value} {kl : Lit} (hkey : keyOf Tryz.prog k key = some kl) {v : Value} (hv : D.atKey kl (.held z) = .held v) :
    (Instr.lookup t (.map (some b)) key false).run Tryz.prog w = .ok v w := by
  obtain ⟨v', ps, hrun, hR⟩ := World.ownsMap.lookup h K ht hz (zd := .held z) (zp := []) rfl hkey
  rw [hv] at hR
  simp only [self, Option.some.injEq, Prod.mk.injEq, DataW.held.injEq] at hR
  rw [← hR.1]
  exact hrun
theorem MapAt.look_ok {w : World} {k : TypeId} {b n : Nat} {D : DataW Value} (h : MapAt w k b n D) {t e : TypeId} (K : Keyed Tryz.prog k) (ht : Tryz.prog.underlying t = some (.map k e)) {z : Value} (hz : (zeroValue e).run Tryz.prog w = .ok z w)
    {key : Value} {kl : Lit} (hkey : keyOf Tryz.prog k key = some kl) {v : Value} (hv : D.atKey kl (.held z) = .held v) :
    (Instr.lookup t (.map (some b)) key true).run Tryz.prog w = .ok (.tuple #[v, .bool (Maps.has D kl)]) w := by
  obtain ⟨v', ps, hrun, hR⟩ := World.ownsMap.look_ok h K ht hz (zd := .held z) (zp := []) rfl hkey
  rw [hv] at hR
  simp only [self, Option.some.injEq, Prod.mk.injEq, DataW.held.injEq] at hR
  rw [← hR.1]
  exact hrun
theorem MapAt.put {w : World} {k : TypeId} {b n : Nat} {D : DataW Value} (h : MapAt w k b n D) {t e : TypeId} (K : Keyed Tryz.prog k) (ht : Tryz.prog.underlying t = some (.map k e)) (hn : n < maxLen) {key : Value} (val : Value) {kl : Lit}
    (hkey : keyOf Tryz.prog k key = some kl) : ∃ w', (Instr.mapUpdate t (.map (some b)) key val).run Tryz.prog w = .ok () w' ∧ MapAt w' k b (n + 1) (D.put kl (.held val)) ∧ w.grownBy w' (some b) :=
  World.ownsMap.update h K ht hn hkey rfl
/-- 'm[k] = v' in a literal of a map -/
theorem wpList_insert_own (w : World) {ops : Array Oper} {rest : List Oper} {o : Oper} {a : Act} {Q : Exit → Act → World → Prop}
    (hg : o.guard = none) (m x v : Operand) (t : TypeId) (hop : o.op = Op.insert t m x v)
    (k e : TypeId) (K : Keyed Tryz.prog k) (ht : Tryz.prog.underlying t = some (.map k e)) (b n : Nat) (D : DataW Value)
    (hm : a.eval m = .map (some b)) (hown : MapAt w k b n D) (hn : n < maxLen) (key val : Value) (kl : Lit) (hx : a.eval x = key) (hv : a.eval v = val) (hkey : keyOf Tryz.prog k key = some kl)
    (hK : ∀ w', MapAt w' k b (n + 1) (D.put kl (.held val)) → w.grownBy w' (some b) → wpList Tryz.prog ops Q rest (a.put o.dst undef) w') :
    wpList Tryz.prog ops Q (o :: rest) a w := by
  refine wpList_plain hg fun K' hK' => ?_
  obtain ⟨w', hrun, r1, r2⟩ := hown.put K ht hn val hkey
  unfold Oper.wp
  simp [execOp, hop, hm, hx, hv, hrun, Result.andThen]
  exact hK' _ _ (hK w' r1 r2)
end Go.Proofs.YtpfkeohaaeiaaaaGreat
/- Law 13: pick (both), varint's class. -/
namespace Go.Proofs.YtpfkeohaaeiaaaaGreat
open Go.RowKit
def pickF (c n : Int) : Int := if c < 0 then (-(c+1)) % n else c % n
theorem pickF_range (c n : Int) (h : 1 ≤ n) : 0 ≤ pickF c n ∧ pickF c n < n := by
  unfold pickF; split
  · exact ⟨Int.emod_nonneg _ (by omega), Int.emod_lt_of_pos _ (by omega)⟩
  · exact ⟨Int.emod_nonneg _ (by omega), Int.emod_lt_of_pos _ (by omega)⟩
theorem pick_any (c n : Int) (w : World) (hc : -9223372036854775808 ≤ c) (hc' : c ≤ 9223372036854775807) (hn : 1 ≤ n) (hn2 : n ≤ 1152921504606846976) :
    Calls Tryz.prog 5 #[.int .i64 c, .int .i64 n] w fun e w' => e = .returned (.int .i64 (pickF c n)) ∧ w = w' := by
  by_cases h : c < 0
  · have e : pickF c n = -((c+1).tmod n) := by
      unfold pickF; rw [if_pos h, ← Int.neg_tmod, Int.tmod_eq_emod_of_nonneg (by omega)]
    have H := Lib.hid e
    clear e
    go_enter Tryz.func5, Tryz.ntmps5
    go_wp2
    go_ret
    exact ⟨by rw [H.out]; rfl, rfl⟩
  · have e : pickF c n = c % n := by unfold pickF; rw [if_neg h]
    have H := Lib.hid e
    clear e
    go_enter Tryz.func5, Tryz.ntmps5
    go_wp2
    go_ret
    exact ⟨by rw [H.out]; rfl, rfl⟩
def cls (n : Int) : Int := if n < 0 then -1 else if n ≤ 63 then 0 else if n ≤ 16383 then 1 else if n ≤ 1073741823 then 2 else if n ≤ 4611686018427387903 then 3 else -1
theorem cidx0 (w : World) : (Instr.index 181 (.agg #[.int .i64 63, .int .i64 16383, .int .i64 1073741823, .int .i64 4611686018427387903]) (.int .i64 0)).run Tryz.prog w = .ok (.int .i64 63) w := by kernel_rfl
theorem cidx1 (w : World) : (Instr.index 181 (.agg #[.int .i64 63, .int .i64 16383, .int .i64 1073741823, .int .i64 4611686018427387903]) (.int .i64 1)).run Tryz.prog w = .ok (.int .i64 16383) w := by kernel_rfl
theorem cidx2 (w : World) : (Instr.index 181 (.agg #[.int .i64 63, .int .i64 16383, .int .i64 1073741823, .int .i64 4611686018427387903]) (.int .i64 2)).run Tryz.prog w = .ok (.int .i64 1073741823) w := by kernel_rfl
theorem cidx3 (w : World) : (Instr.index 181 (.agg #[.int .i64 63, .int .i64 16383, .int .i64 1073741823, .int .i64 4611686018427387903]) (.int .i64 3)).run Tryz.prog w = .ok (.int .i64 4611686018427387903) w := by kernel_rfl
set_option maxRecDepth 100000 in
set_option maxHeartbeats 2000000 in
theorem class_any (n : Int) (w : World) : Calls Tryz.prog 127 #[.int .i64 n] w fun e w' => e = .returned (.int .i64 (cls n)) ∧ Below w.heap.size w w' := by
  by_cases h0 : n < 0
  · have E : Hid (cls n = -1) := Lib.hid (by unfold cls; rw [if_pos h0])
    go_enter Tryz.func127, Tryz.ntmps127
    go_wp2
    go_ret
    exact ⟨by rw [E.out]; try rfl, (Below.refl _ _).alloc (Nat.le_refl _) _⟩
  · have h0' : 0 ≤ n := by omega
    have hc : n ≤ 63 ∨ (63 < n ∧ n ≤ 16383) ∨ (16383 < n ∧ n ≤ 1073741823) ∨ (1073741823 < n ∧ n ≤ 4611686018427387903) ∨ 4611686018427387903 < n := by omega
    clear h0
    have x0 := cidx0
    have x1 := cidx1
    have x2 := cidx2
    have x3 := cidx3
    rcases hc with h1 | ⟨h1, h2⟩ | ⟨h1, h2⟩ | ⟨h1, h2⟩ | h1
    · have E : Hid (cls n = 0) := Lib.hid (by unfold cls; rw [if_neg (by omega), if_pos h1])
      go_enter Tryz.func127, Tryz.ntmps127
      go_wp2
      refine wp_loop_rounds 1 ?_
      rw [rounds_succ]
      go_wp2
      go_ret
      exact ⟨by rw [E.out]; try rfl, (Below.refl _ _).alloc (Nat.le_refl _) _⟩
    · have E : Hid (cls n = 1) := Lib.hid (by unfold cls; rw [if_neg (by omega), if_neg (by omega), if_pos h2])
      have g1 : ¬ n ≤ 63 := by omega
      go_enter Tryz.func127, Tryz.ntmps127
      go_wp2
      refine wp_loop_rounds 2 ?_
      rw [rounds_succ]
      go_wp2
      rw [rounds_succ]
      go_wp2
      go_ret
      exact ⟨by rw [E.out]; try rfl, (Below.refl _ _).alloc (Nat.le_refl _) _⟩
    · have E : Hid (cls n = 2) := Lib.hid (by unfold cls; rw [if_neg (by omega), if_neg (by omega), if_neg (by omega), if_pos h2])
      have g1 : ¬ n ≤ 63 := by omega
      have g2 : ¬ n ≤ 16383 := by omega
      go_enter Tryz.func127, Tryz.ntmps127
      go_wp2
      refine wp_loop_rounds 3 ?_
      rw [rounds_succ]
      go_wp2
      rw [rounds_succ]
      go_wp2
      rw [rounds_succ]
      go_wp2
      go_ret
      exact ⟨by rw [E.out]; try rfl, (Below.refl _ _).alloc (Nat.le_refl _) _⟩
    · have E : Hid (cls n = 3) := Lib.hid (by unfold cls; rw [if_neg (by omega), if_neg (by omega), if_neg (by omega), if_neg (by omega), if_pos h2])
      have g1 : ¬ n ≤ 63 := by omega
      have g2 : ¬ n ≤ 16383 := by omega
      have g3 : ¬ n ≤ 1073741823 := by omega
      go_enter Tryz.func127, Tryz.ntmps127
      go_wp2
      refine wp_loop_rounds 4 ?_
      rw [rounds_succ]
      go_wp2
      rw [rounds_succ]
      go_wp2
      rw [rounds_succ]
      go_wp2
      rw [rounds_succ]
      go_wp2
      go_ret
      exact ⟨by rw [E.out]; try rfl, (Below.refl _ _).alloc (Nat.le_refl _) _⟩
    · have E : Hid (cls n = -1) := Lib.hid (by unfold cls; rw [if_neg (by omega), if_neg (by omega), if_neg (by omega), if_neg (by omega), if_neg (by omega)])
      have g1 : ¬ n ≤ 63 := by omega
      have g2 : ¬ n ≤ 16383 := by omega
      have g3 : ¬ n ≤ 1073741823 := by omega
      have g4 : ¬ n ≤ 4611686018427387903 := by omega
      go_enter Tryz.func127, Tryz.ntmps127
      go_wp2
      refine wp_loop_rounds 5 ?_
      rw [rounds_succ]
      go_wp2
      rw [rounds_succ]
      go_wp2
      rw [rounds_succ]
      go_wp2
      rw [rounds_succ]
      go_wp2
      rw [rounds_succ]
      go_wp2
      go_ret
      exact ⟨by rw [E.out]; try rfl, (Below.refl _ _).alloc (Nat.le_refl _) _⟩
end Go.Proofs.YtpfkeohaaeiaaaaGreat
/- Law 13: bytes as numbers. -/
namespace Go.Proofs.YtpfkeohaaeiaaaaGreat
open Go.RowKit
def bytesOf (s : ByteArray) : List Int := s.data.toList.map fun b => (b.toNat : Int)
def beN : List Int → Int := List.foldl (fun n b => n * 256 + b) 0
theorem beN_append (l m : List Int) : beN (l ++ m) = m.foldl (fun n b => n * 256 + b) (beN l) := by unfold beN; rw [List.foldl_append]
theorem beN_snoc (l : List Int) (x : Int) : beN (l ++ [x]) = beN l * 256 + x := by rw [beN_append]; rfl
theorem beN_from : ∀ (l : List Int) (v : Int), (∀ x ∈ l, 0 ≤ x ∧ x ≤ 255) → 0 ≤ v → v * 256 ^ l.length ≤ l.foldl (fun n b => n * 256 + b) v ∧ l.foldl (fun n b => n * 256 + b) v < (v + 1) * 256 ^ l.length := by
  intro l
  induction l with
  | nil => intro v _ hv; simp; omega
  | cons x l ih =>
    intro v h hv
    have hx := h x (by simp)
    have h2 := ih (v * 256 + x) (fun y hy => h y (by simp [hy])) (by omega)
    simp only [List.foldl_cons, List.length_cons]
    have hp : (0 : Int) < 256 ^ l.length := Int.pow_pos (by decide)
    obtain ⟨P, hP⟩ : ∃ P : Int, 256 ^ l.length = P := ⟨_, rfl⟩
    rw [Int.pow_succ, hP]
    rw [hP] at h2 hp
    clear hP
    have e1 : v * (P * 256) = v * 256 * P := by rw [Int.mul_comm P 256, ← Int.mul_assoc]
    have e2 : (v + 1) * (P * 256) = v * 256 * P + 256 * P := by rw [Int.mul_comm P 256, ← Int.mul_assoc, Int.add_mul, Int.add_mul]; simp
    have e3 : (v * 256 + x) * P = v * 256 * P + x * P := Int.add_mul ..
    have e4 : (v * 256 + x + 1) * P = v * 256 * P + x * P + P := by rw [Int.add_mul, Int.add_mul]; simp
    have e5 : 0 ≤ x * P := Int.mul_nonneg hx.1 (by omega)
    have e6 : x * P ≤ 255 * P := Int.mul_le_mul_of_nonneg_right hx.2 (by omega)
    rw [e1, e2]
    rw [e3, e4] at h2
    omega
theorem beN_bound (l : List Int) (h : ∀ x ∈ l, 0 ≤ x ∧ x ≤ 255) : 0 ≤ beN l ∧ beN l < 256 ^ l.length := by
  have := beN_from l 0 h (by decide)
  simp at this
  unfold beN
  exact this
theorem p256 {j : Nat} (h : j ≤ 7) : (256 : Int) ^ j ≤ 72057594037927936 := by
  have : j = 0 ∨ j = 1 ∨ j = 2 ∨ j = 3 ∨ j = 4 ∨ j = 5 ∨ j = 6 ∨ j = 7 := by omega
  rcases this with rfl | rfl | rfl | rfl | rfl | rfl | rfl | rfl <;> decide
theorem bytesOf_length (s : ByteArray) : (bytesOf s).length = s.size := by
  unfold bytesOf; rw [List.length_map, Array.length_toList]; rfl
theorem bytesOf_range (s : ByteArray) : ∀ x ∈ bytesOf s, 0 ≤ x ∧ x ≤ 255 := by
  intro x hx
  unfold bytesOf at hx
  obtain ⟨b, _, rfl⟩ := List.mem_map.1 hx
  have := b.toNat_lt
  omega
theorem bytesOf_at (s : ByteArray) (k : Nat) (h : k < s.size) : (bytesOf s)[k]? = some ((s[k]'h).toNat : Int) := by
  have h2 : k < s.data.toList.length := by simpa using h
  unfold bytesOf
  rw [List.getElem?_map, List.getElem?_eq_getElem h2]
  rfl
theorem u64_wrap (x : Int) (h0 : 0 ≤ x) (h1 : x < 18446744073709551616) : IntKind.u64.wrap x = x := by
  simp [IntKind.wrap, IntKind.bits, IntKind.signed]; omega
theorem or_byte (v b : Int) (h0 : 0 ≤ v) (h1 : v < 72057594037927936) (h2 : 0 ≤ b) (h3 : b ≤ 255) : bits .or .u64 (IntKind.u64.wrap (v * 256)) (IntKind.u64.wrap b) = v * 256 + b := by
  rw [u64_wrap _ (by omega) (by omega), u64_wrap _ (by omega) (by omega)]
  obtain ⟨m, rfl⟩ := Int.eq_ofNat_of_zero_le h0
  obtain ⟨n, rfl⟩ := Int.eq_ofNat_of_zero_le h2
  have e : ((m : Int) * 256) = ((m * 256 : Nat) : Int) := by simp
  rw [e, u64_or_nat _ _ (by omega) (by omega)]
  have : m * 256 ||| n = m * 256 + n := by
    have := Nat.shiftLeft_add_eq_or_of_lt (show n < 2 ^ 8 by omega) m
    rw [Nat.shiftLeft_eq] at this
    exact this.symm
  rw [this]; simp
end Go.Proofs.YtpfkeohaaeiaaaaGreat
/- Law 13: varint's bigEndian: its iterator's contract. -/
namespace Go.Proofs.YtpfkeohaaeiaaaaGreat
open Go.RowKit Go.Shelf
attribute [local go_sem] Oper.semAt_some
/-- the low w bytes of N, most significant first -/
def beB (w : Nat) (N : Int) : List Int := (List.range w).map fun j => N / 2 ^ (8 * (w - 1 - j)) % 256
theorem beB_len (w : Nat) (N : Int) : (beB w N).length = w := by simp [beB]
def encB (x : Int) : Array Value := #[.int .u8 x]
theorem beB_succ (w : Nat) (N : Int) (k : Nat) (h : k < w) : (beB w N).take (k + 1) = (beB w N).take k ++ [N / 2 ^ (8 * (w - 1 - k)) % 256] := by
  rw [List.take_succ_eq_append_getElem (by rw [beB_len]; exact h)]
  simp [beB]
set_option maxRecDepth 100000 in
set_option maxHeartbeats 2000000 in
theorem be_in (n : Nat) (hn : 1 ≤ n) (l B1 B2 n₀ : Nat) (N : Int) (w : Nat) (hw : w ≤ 8) (_hN0 : 0 ≤ N) (_hN1 : N < 18446744073709551616) (_hp1 : B1 < n₀) (hp2 : B2 < n₀) (J Jx : List Int → World → Prop) {m : Nat} (_hJA : AbidesFrom m J)
    (hY : ∀ pre x W, J pre W → pre.length < w → YieldAt Fence.wide (n - 1) Tryz.prog l (encB x) W fun e W' =>
      (e = .returned (.bool true) ∧ J (pre ++ [x]) W' ∧ Below n₀ W W') ∨ (e = .returned (.bool false) ∧ Jx (pre ++ [x]) W'))
    (W : World) (_hWn : n₀ ≤ W.heap.size) (hB1 : W.cell? ⟨B1, 0, none⟩ = some (.int .i64 w)) (hB2 : W.cell? ⟨B2, 0, none⟩ = some (.int .u64 N)) (h0 : J [] W) :
    CallsIn Fence.wide n Tryz.prog 133 #[.func (.yield l) #[] #[], .pointer (some ⟨B1, 0, none⟩), .pointer (some ⟨B2, 0, none⟩)] W fun e W' => (∃ v, e = .returned v) ∧
      ((∃ ys, ys = beB w N ∧ J ys W') ∨ (∃ pre, pre <+: beB w N ∧ Jx pre W')) := by
  refine callsIn_of_wp Tryz.func133 rfl trivial ?_ rfl
  simp only [Tryz.ntmps133, List.size_toArray, List.length_cons, List.length_nil, Nat.reduceAdd, Nat.reduceSub, Array.replicate_succ, Array.replicate_zero, List.push_toArray, List.append_toArray, List.nil_append, List.cons_append]
  gi_wp2
  gi_loopw [4] (fun i wr => ∃ k : Nat, k ≤ w ∧ i = .int .i64 ((w : Int) - 1 - (k : Int)) ∧ J ((beB w N).take k) wr ∧ Below n₀ W wr)
    (fun i _ => (intOf i + 1).toNat)
  case atStart => exact ⟨0, Nat.zero_le _, by simp, h0, Below.refl _ _⟩
  case round =>
    obtain ⟨k, hk, rfl, hJs, hnx⟩ := hrel
    by_cases hlt : k < w
    · have hlen : ((beB w N).take k).length < w := by rw [List.length_take, beB_len]; omega
      have hIS := Lib.hid (beB_succ w N k hlt)
      have hc2 : wr.cell? ⟨B2, 0, none⟩ = some (.int .u64 N) := by rw [hnx.cell (p := ⟨B2, 0, none⟩) hp2]; exact hB2
      have HNX := Lib.hid hnx
      have g1 : 0 ≤ (w : Int) - 1 - (k : Int) := by omega
      have g2 : (w : Int) - 1 - (k : Int) ≤ 7 := by omega
      obtain ⟨fn, tmps, assign, body, hy, hR⟩ := hY _ (N / 2 ^ (8 * (w - 1 - k)) % 256) wr hJs hlen
      simp only [encB] at hy
      clear hnx
      gi_wp2
      refine hR.mono ?_
      rintro e W3 (⟨rfl, hJ3, hk3⟩ | ⟨rfl, hJx3⟩)
      · gi_wp2
        go_roundw
        case rel => exact ⟨k + 1, by omega, by congr 1; omega, by rw [hIS.out]; exact hJ3, HNX.out.trans hk3⟩
        case measure => simp [intOf]; omega
      · gi_wp2
        refine bodyPost_ret (results_none rfl _ _ _) rfl ?_
        exact ⟨⟨_, rfl⟩, .inr ⟨_, by rw [← hIS.out]; exact List.take_prefix _ _, hJx3⟩⟩
    · obtain rfl : k = w := by omega
      clear hlt
      gi_wp2
      go_end0
      exact ⟨⟨_, rfl⟩, .inl ⟨_, by rw [List.take_of_length_le (by rw [beB_len]; exact Nat.le_refl _)], hJs⟩⟩
theorem be_stops (n : Nat) (hn : 1 ≤ n) (B1 B2 n₀ : Nat) (N : Int) (w : Nat) (hw : w ≤ 8) (hN0 : 0 ≤ N) (hN1 : N < 18446744073709551616) (W : World) (hn0 : n₀ ≤ W.heap.size) (hp1 : B1 < n₀) (hp2 : B2 < n₀)
    (hB1 : W.cell? ⟨B1, 0, none⟩ = some (.int .i64 w)) (hB2 : W.cell? ⟨B2, 0, none⟩ = some (.int .u64 N)) :
    SeqStopsK Fence.wide n Tryz.prog 133 #[.pointer (some ⟨B1, 0, none⟩), .pointer (some ⟨B2, 0, none⟩)] encB (Below n₀) (fun ys => ys = beB w N) (fun pre => pre <+: beB w N) w W := fun l J Jx W2 hW hA _ hY h0 =>
  be_in n hn l B1 B2 n₀ N w hw hN0 hN1 hp1 hp2 J Jx hA hY W2 (Nat.le_trans hn0 hW.size) ((hW.cell (p := ⟨B1, 0, none⟩) (Nat.lt_of_lt_of_le hp1 hn0)).trans hB1) ((hW.cell (p := ⟨B2, 0, none⟩) (Nat.lt_of_lt_of_le hp2 hn0)).trans hB2) h0
end Go.Proofs.YtpfkeohaaeiaaaaGreat
/- Law 13: varint's bigEndian, collect and Encode. -/
namespace Go.Proofs.YtpfkeohaaeiaaaaGreat
open Go.RowKit Go.Shelf
attribute [local go_sem] Oper.semAt_some
theorem cell_alloc_l {W : World} {a : Addr} {v : Value} (o : Obj) (h : W.cell? a = some v) : (W.alloc o).cell? a = some v := cell_kept h (World.grownBy_alloc W o none) (fun r e => by cases e)
theorem be_any (N : Int) (k : Nat) (w : World) : Calls Tryz.prog 129 #[.int .u64 N, .int .i64 k] w fun e w' =>
    e = .returned (.func (.func 133) #[] #[.pointer (some ⟨w.heap.size + 1, 0, none⟩), .pointer (some ⟨w.heap.size, 0, none⟩)]) ∧ w' = (w.alloc (.cells #[.int .u64 N] 158)).alloc (.cells #[.int .i64 k] 3) := by
  go_enter Tryz.func129, Tryz.ntmps129
  go_wp2
  go_ret
  exact ⟨rfl, rfl⟩
theorem info5 : (Tryz.prog.info? 5).map (fun i => (i.zero, i.size, i.bytes)) = some (some (.int .u8 0), 1, 1) := by kernel_rfl
set_option maxRecDepth 100000 in
set_option maxHeartbeats 2000000 in
theorem collect_any (N : Int) (k : Nat) (w : World) (hk : k ≤ 8) (hN0 : 0 ≤ N) (hN1 : N < 18446744073709551616) (B1 B2 : Nat) (hp1 : B1 < w.heap.size) (hp2 : B2 < w.heap.size)
    (hB1 : w.cell? ⟨B1, 0, none⟩ = some (.int .i64 k)) (hB2 : w.cell? ⟨B2, 0, none⟩ = some (.int .u64 N)) :
    Calls Tryz.prog 128 #[.func (.func 133) #[] #[.pointer (some ⟨B1, 0, none⟩), .pointer (some ⟨B2, 0, none⟩)]] w fun e w' =>
      e = .returned (.string (strOfNums (beB k N))) ∧ Below w.heap.size w w' := by
  obtain ⟨i0, hi, hz0, hz1, hz2⟩ := info_parts info5
  refine (callsIn_wide (n := 4)).1 ?_
  refine callsIn_of_wp_marks Tryz.func128 rfl trivial ?_ rfl
  simp only [Tryz.ntmps128, List.size_toArray, List.length_cons, List.length_nil, Nat.reduceAdd, Nat.reduceSub, Array.replicate_succ, Array.replicate_zero, List.push_toArray, List.append_toArray, List.nil_append, List.cons_append]
  gi_wp2
  have bO := Boxed.new w 113 (.slice none 0 0)
  have hB0 : Below w.heap.size w (w.alloc (.cells #[.slice none 0 0] 113)) := (Below.refl _ w).alloc (Nat.le_refl _) _
  have hS := be_stops (4 - 1) (by decide) B1 B2 w.heap.size N k hk hN0 hN1 (w.alloc (.cells #[.slice none 0 0] 113)) (by simp) hp1 hp2 (cell_alloc_l _ hB1) (cell_alloc_l _ hB2)
  refine wpIn_rangeFunc_ownG rfl (by decide) (gf := 133) (lb := #[.pointer (some ⟨B1, 0, none⟩), .pointer (some ⟨B2, 0, none⟩)]) rfl trivial (enters_of Tryz.func133 (by kernel_rfl) rfl)
    hS belowK_t (belowK_b (by simp)) (Below.refl _ _) (fun _ => rfl)
    (fun (pre : List Int) W => (∃ v, Boxed W w.heap.size 113 v ∧ W.ownsRow w.heap.size 5 1 v pre.length (pre.map (Value.int .u8)) ∧ True) ∧ Below w.heap.size w W)
    (fun _ _ _ => False)
    (OwnFrom.and (Own.from (holdsRow_own w.heap.size w.heap.size 113 5 1 (fun (pre : List Int) => pre.length) (fun (pre : List Int) => pre.map (Value.int .u8)) (fun _ _ => True)) _) (ownFrom_below (Nat.le_refl _) (by simp)))
    (fun _ _ _ _ _ hs _ _ => hs)
    ⟨⟨_, bO, World.ownsRow_nil _ _ _ _, trivial⟩, hB0⟩
    (fun x => { tmps := #[Value.func (Fn.func 133) #[] #[Value.pointer (some { block := B1, off := 0 }), Value.pointer (some { block := B2, off := 0 })], undef, Value.string { data := #[] }, Value.pointer (some { block := w.heap.size, off := 0 }), .int .u8 x, Value.func (Fn.func 133) #[] #[Value.pointer (some { block := B1, off := 0 }), Value.pointer (some { block := B2, off := 0 })], .int .u8 x, undef, undef, undef, undef, undef, undef], defers := [] }) ?assign ?body ?done ?stop
  case assign =>
    intro l x W K hK
    simp only [encB]
    gi_wp2
    exact hK
  case body =>
    rintro l pre x W ⟨⟨v, hv, hrow, _⟩, hB⟩ hlt
    have hc := hv.cell
    gi_wp2_with (gi_at_builtin; refine wpListIn_append_own _ rfl _ _ 113 rfl w.heap.size 5 i0 (.int .u8 0) 1 1 Tryz.underlying113 hi hz0 hz1 hz2 rfl (by decide) _ _ _ rfl (hrow.alloc _) ⟨W.heap.size, 0, none⟩ 1 1 [.int .u8 x] rfl rfl (cell_one_new _ _ _) (by simp [Value.oneCell']) (by unfold maxLen; omega) (by omega) (by have := hB.size; simp; omega) ?_; intro v' w1 hown' hgrow _; obtain ⟨g', cap', rfl⟩ := ownsRow_succ hown'; obtain ⟨hv1, hv2, hr2, hk2, hb2⟩ := hv.appended (by decide) hrow hB.size (Nat.le_refl _) hown' hgrow; have hc1 := hv1.cell; have hf1 := hv1.frozen)
    exact ⟨hk2.from _, hb2, ⟨_, hv2, by simpa using hr2, trivial⟩, hB.trans hb2⟩
  case done =>
    rintro D ys W hD rfl ⟨⟨v, hv, hrow, _⟩, hB⟩ hK
    have hc := hv.cell
    have hsz := hB.size
    rw [beB_len] at hrow
    rcases hrow.2 with ⟨rfl, h0⟩ | ⟨g, cap, cur, rfl, hb, hg, hn, hm, hcs, htake⟩
    · subst h0
      have hcv := fun (w : World) => run_convert_bytes_nil (P := Tryz.prog) w 113 5 Tryz.underlying113 Tryz.underlying5 0 0 9 Tryz.underlying9
      gi_wp2
      refine ⟨by simp, .inl ⟨_, _, rfl, run_takeDeferred hK, ?_⟩⟩
      exact ⟨_, results_tmp rfl _ _ _, rfl, hB.trans (belowK_b (w := w) (Nat.le_refl _) W D _ _ (by simp at hD; omega) hK rfl rfl)⟩
    · have hcv := run_convert_bytes_arg (P := Tryz.prog) W 113 5 Tryz.underlying113 Tryz.underlying5 g 0 k cap (beB k N) (beB_len k N) (fun i hi => by
        have := hrow.cells (g := g) rfl i (.int .u8 ((beB k N).getD i 0)) (by rw [List.getElem?_map, List.getElem?_eq_getElem (by rw [beB_len]; exact hi)]; simp [List.getD, List.getElem?_eq_getElem (show i < (beB k N).length by rw [beB_len]; exact hi)])
        rw [add_plain] at this
        exact this) 9 Tryz.underlying9
      gi_wp2
      refine ⟨by simp, .inl ⟨_, _, rfl, run_takeDeferred hK, ?_⟩⟩
      exact ⟨_, results_tmp rfl _ _ _, rfl, hB.trans (belowK_b (w := w) (Nat.le_refl _) W D _ _ (by simp at hD; omega) hK rfl rfl)⟩
  case stop =>
    rintro D c pre W _ _ h _
    exact h.elim
theorem be_then (N : Int) (k : Nat) (w1 : World) (hk : k ≤ 8) (hN0 : 0 ≤ N) (hN1 : N < 18446744073709551616) :
    Calls Tryz.prog 128 #[.func (.func 133) #[] #[.pointer (some ⟨w1.heap.size + 1, 0, none⟩), .pointer (some ⟨w1.heap.size, 0, none⟩)]] ((w1.alloc (.cells #[.int .u64 N] 158)).alloc (.cells #[.int .i64 k] 3)) fun e w' =>
      e = .returned (.string (strOfNums (beB k N))) ∧ Below w1.heap.size w1 w' := by
  have c1 : ((w1.alloc (.cells #[.int .u64 N] 158)).alloc (.cells #[.int .i64 k] 3)).cell? ⟨w1.heap.size + 1, 0, none⟩ = some (.int .i64 k) := by
    have := (Boxed.new (w1.alloc (.cells #[.int .u64 N] 158)) 3 (.int .i64 k)).cell
    rwa [World.size_alloc] at this
  refine (collect_any N k _ hk hN0 hN1 (w1.heap.size + 1) w1.heap.size (by simp) (by simp; omega) c1 (cell_alloc_l _ (Boxed.new w1 158 _).cell)).mono ?_
  rintro e w' ⟨he, hb⟩
  exact ⟨he, (((Below.refl _ w1).alloc (Nat.le_refl _) _).alloc (by simp) _).trans (hb.mono (by simp; omega))⟩
theorem or_top (n C : Nat) (c i : Nat) (hC : C = c <<< i) (h : n < 2 ^ i) : n ||| C = n + C := by
  subst hC
  have := Nat.shiftLeft_add_eq_or_of_lt h c
  rw [Nat.or_comm, ← this, Nat.add_comm]
/-- varint's encoding -/
def encV (n : Int) : List Int := if cls n < 0 then [] else beB (2 ^ (cls n).toNat) (n + cls n * 2 ^ (8 * 2 ^ (cls n).toNat - 2))
theorem enc_no (n : Int) (w : World) (h : cls n < 0) : Calls Tryz.prog 118 #[.int .i64 n] w fun e w' => e = .returned (.tuple #[.string ⟨#[]⟩, .int .i64 10]) ∧ Below w.heap.size w w' := by
  have CL := Lib.hid (class_any n w)
  go_enter Tryz.func118, Tryz.ntmps118
  go_wp2_with (go_at_call 127; refine CL.out.mono ?_; rintro e w' ⟨rfl, hb⟩)
  go_ret2
  exact ⟨rfl, hb⟩
set_option maxRecDepth 100000 in
set_option maxHeartbeats 2000000 in
theorem enc_0 (n : Int) (w : World) (h : cls n = 0) (h0 : 0 ≤ n) (h1 : n ≤ 63) : Calls Tryz.prog 118 #[.int .i64 n] w fun e w' => e = .returned (.tuple #[.string (strOfNums (encV n)), .int .i64 0]) ∧ Below w.heap.size w w' := by
  have E : Hid (encV n = beB 1 (n + 0)) := Lib.hid (by unfold encV; rw [h]; rfl)
  have CL := Lib.hid (class_any n w)
  rw [h] at CL
  clear h
  have HO : bits .or .u64 n 0 = n + 0 := by
    obtain ⟨m, rfl⟩ := Int.eq_ofNat_of_zero_le h0
    have e := or_top m 0 0 6 (by decide) (by omega)
    rw [show ((0 : Int)) = ((0 : Nat) : Int) from rfl, u64_or_nat _ _ (by omega) (by omega), e]
    simp
  have BE := Lib.hid (be_any (bits .or .u64 n 0) 1)
  have CO := Lib.hid (fun w => be_then (bits .or .u64 n 0) 1 w (by decide) (by omega) (by omega))
  have HH := Lib.hid HO
  clear HO
  go_enter Tryz.func118, Tryz.ntmps118
  go_wp2_with (first | (go_at_call 127; refine CL.out.mono ?_; rintro e w1 ⟨rfl, hb⟩) | (go_at_call 129; refine (BE.out _).mono ?_; rintro e w2 ⟨rfl, rfl⟩) | (go_at_call 128; refine (CO.out _).mono ?_; rintro e w3 ⟨rfl, hb3⟩))
  go_ret2
  exact ⟨by rw [E.out, HH.out]; rfl, btrans hb hb3⟩
set_option maxRecDepth 100000 in
set_option maxHeartbeats 2000000 in
theorem enc_1 (n : Int) (w : World) (h : cls n = 1) (h0 : 0 ≤ n) (h1 : n ≤ 16383) : Calls Tryz.prog 118 #[.int .i64 n] w fun e w' => e = .returned (.tuple #[.string (strOfNums (encV n)), .int .i64 0]) ∧ Below w.heap.size w w' := by
  have E : Hid (encV n = beB 2 (n + 16384)) := Lib.hid (by unfold encV; rw [h]; rfl)
  have CL := Lib.hid (class_any n w)
  rw [h] at CL
  clear h
  have HO : bits .or .u64 n 16384 = n + 16384 := by
    obtain ⟨m, rfl⟩ := Int.eq_ofNat_of_zero_le h0
    have e := or_top m 16384 1 14 (by decide) (by omega)
    rw [show ((16384 : Int)) = ((16384 : Nat) : Int) from rfl, u64_or_nat _ _ (by omega) (by omega), e]
    simp
  have BE := Lib.hid (be_any (bits .or .u64 n 16384) 2)
  have CO := Lib.hid (fun w => be_then (bits .or .u64 n 16384) 2 w (by decide) (by omega) (by omega))
  have HH := Lib.hid HO
  clear HO
  go_enter Tryz.func118, Tryz.ntmps118
  go_wp2_with (first | (go_at_call 127; refine CL.out.mono ?_; rintro e w1 ⟨rfl, hb⟩) | (go_at_call 129; refine (BE.out _).mono ?_; rintro e w2 ⟨rfl, rfl⟩) | (go_at_call 128; refine (CO.out _).mono ?_; rintro e w3 ⟨rfl, hb3⟩))
  go_ret2
  exact ⟨by rw [E.out, HH.out]; rfl, btrans hb hb3⟩
set_option maxRecDepth 100000 in
set_option maxHeartbeats 2000000 in
theorem enc_2 (n : Int) (w : World) (h : cls n = 2) (h0 : 0 ≤ n) (h1 : n ≤ 1073741823) : Calls Tryz.prog 118 #[.int .i64 n] w fun e w' => e = .returned (.tuple #[.string (strOfNums (encV n)), .int .i64 0]) ∧ Below w.heap.size w w' := by
  have E : Hid (encV n = beB 4 (n + 2147483648)) := Lib.hid (by unfold encV; rw [h]; rfl)
  have CL := Lib.hid (class_any n w)
  rw [h] at CL
  clear h
  have HO : bits .or .u64 n 2147483648 = n + 2147483648 := by
    obtain ⟨m, rfl⟩ := Int.eq_ofNat_of_zero_le h0
    have e := or_top m 2147483648 2 30 (by decide) (by omega)
    rw [show ((2147483648 : Int)) = ((2147483648 : Nat) : Int) from rfl, u64_or_nat _ _ (by omega) (by omega), e]
    simp
  have BE := Lib.hid (be_any (bits .or .u64 n 2147483648) 4)
  have CO := Lib.hid (fun w => be_then (bits .or .u64 n 2147483648) 4 w (by decide) (by omega) (by omega))
  have HH := Lib.hid HO
  clear HO
  go_enter Tryz.func118, Tryz.ntmps118
  go_wp2_with (first | (go_at_call 127; refine CL.out.mono ?_; rintro e w1 ⟨rfl, hb⟩) | (go_at_call 129; refine (BE.out _).mono ?_; rintro e w2 ⟨rfl, rfl⟩) | (go_at_call 128; refine (CO.out _).mono ?_; rintro e w3 ⟨rfl, hb3⟩))
  go_ret2
  exact ⟨by rw [E.out, HH.out]; rfl, btrans hb hb3⟩
set_option maxRecDepth 100000 in
set_option maxHeartbeats 2000000 in
theorem enc_3 (n : Int) (w : World) (h : cls n = 3) (h0 : 0 ≤ n) (h1 : n ≤ 4611686018427387903) : Calls Tryz.prog 118 #[.int .i64 n] w fun e w' => e = .returned (.tuple #[.string (strOfNums (encV n)), .int .i64 0]) ∧ Below w.heap.size w w' := by
  have E : Hid (encV n = beB 8 (n + 13835058055282163712)) := Lib.hid (by unfold encV; rw [h]; rfl)
  have CL := Lib.hid (class_any n w)
  rw [h] at CL
  clear h
  have HO : bits .or .u64 n 13835058055282163712 = n + 13835058055282163712 := by
    obtain ⟨m, rfl⟩ := Int.eq_ofNat_of_zero_le h0
    have e := or_top m 13835058055282163712 3 62 (by decide) (by omega)
    rw [show ((13835058055282163712 : Int)) = ((13835058055282163712 : Nat) : Int) from rfl, u64_or_nat _ _ (by omega) (by omega), e]
    simp
  have BE := Lib.hid (be_any (bits .or .u64 n 13835058055282163712) 8)
  have CO := Lib.hid (fun w => be_then (bits .or .u64 n 13835058055282163712) 8 w (by decide) (by omega) (by omega))
  have HH := Lib.hid HO
  clear HO
  go_enter Tryz.func118, Tryz.ntmps118
  go_wp2_with (first | (go_at_call 127; refine CL.out.mono ?_; rintro e w1 ⟨rfl, hb⟩) | (go_at_call 129; refine (BE.out _).mono ?_; rintro e w2 ⟨rfl, rfl⟩) | (go_at_call 128; refine (CO.out _).mono ?_; rintro e w3 ⟨rfl, hb3⟩))
  go_ret2
  exact ⟨by rw [E.out, HH.out]; rfl, btrans hb hb3⟩
theorem enc_any (n : Int) (w : World) (h : 0 ≤ cls n) : Calls Tryz.prog 118 #[.int .i64 n] w fun e w' => e = .returned (.tuple #[.string (strOfNums (encV n)), .int .i64 0]) ∧ Below w.heap.size w w' := by
  by_cases h0 : n < 0
  · unfold cls at h; rw [if_pos h0] at h; omega
  by_cases h1 : n ≤ 63
  · exact enc_0 n w (by unfold cls; rw [if_neg h0, if_pos h1]) (by omega) h1
  by_cases h2 : n ≤ 16383
  · exact enc_1 n w (by unfold cls; rw [if_neg h0, if_neg h1, if_pos h2]) (by omega) h2
  by_cases h3 : n ≤ 1073741823
  · exact enc_2 n w (by unfold cls; rw [if_neg h0, if_neg h1, if_neg h2, if_pos h3]) (by omega) h3
  by_cases h4 : n ≤ 4611686018427387903
  · exact enc_3 n w (by unfold cls; rw [if_neg h0, if_neg h1, if_neg h2, if_neg h3, if_pos h4]) (by omega) h4
  · unfold cls at h; rw [if_neg h0, if_neg h1, if_neg h2, if_neg h3, if_neg h4] at h; omega
end Go.Proofs.YtpfkeohaaeiaaaaGreat
/- Law 13: packets as plain data; a map of packets; its keys, sorted. -/
namespace Go.Proofs.YtpfkeohaaeiaaaaGreat
open Go.RowKit Go.Maps Go.Sort Go.Shelf
/-- a packet; fv: what its field Frames holds -/
structure Pk where
  pn : Int
  time : Int
  size : Int
  el : Bool
  fv : Value
def Pk.cells (p : Pk) : Array Value := #[.int .i64 p.pn, .int .i64 p.time, .int .i64 p.size, .bool p.el, p.fv]
def Pk.val (p : Pk) : Value := .agg p.cells
/-- the packets stand in rising order, their numbers are below nx -/
structure Up (nx : Int) (l : List Pk) : Prop where
  inc : l.Pairwise fun p q => p.pn < q.pn
  bnd : ∀ p ∈ l, 0 ≤ p.pn ∧ p.pn < nx
  fvs : ∀ p ∈ l, ∃ a n c, p.fv = .slice a n c
theorem pnWf {x : Int} (h0 : 0 ≤ x) (h1 : x ≤ 281474976710656) : (Lit.int .i64 x).wf = true := by
  have : IntKind.i64.min = -9223372036854775808 := by decide
  have : IntKind.i64.max = 9223372036854775807 := by decide
  simp [Lit.wf]; omega
/-- the map D holds the packets, each under its number -/
structure HoldsPk (D : DataW Value) (l : List Pk) : Prop where
  tidy : Tidy D
  mem : ∀ x : Int, Maps.has D (.int .i64 x) = true ↔ ∃ p ∈ l, p.pn = x
  at_ : ∀ p ∈ l, ∀ z, D.atKey (.int .i64 p.pn) (.held z) = .held p.val
theorem holds_nil : HoldsPk (.map []) [] := ⟨tidy_empty, fun x => by simp [Maps.has], fun p hp => by cases hp⟩
theorem isKey (x : Int) : WideAt.IsKeyLit (.int .i64 x) := by simp [WideAt.IsKeyLit]
theorem HoldsPk.put {D : DataW Value} {l : List Pk} {nx : Int} (h : HoldsPk D l) (hu : Up nx l) (p : Pk) (hp : p.pn = nx) : HoldsPk (D.put (.int .i64 p.pn) (.held p.val)) (l ++ [p]) := by
  refine ⟨h.tidy.put (isKey _) _, fun x => ?_, fun q hq z => ?_⟩
  · by_cases e : x = p.pn
    · subst e
      rw [has_put_same h.tidy.isMap (isKey _)]
      simp
    · rw [has_put_other (fun e2 => e (by cases e2; rfl)), h.mem]
      constructor
      · rintro ⟨q, hq, rfl⟩; exact ⟨q, by simp [hq], rfl⟩
      · rintro ⟨q, hq, rfl⟩
        rcases List.mem_append.1 hq with hq | hq
        · exact ⟨q, hq, rfl⟩
        · exact absurd (by rw [List.mem_singleton.1 hq]) e
  · rcases List.mem_append.1 hq with hq | hq
    · have := hu.bnd q hq
      have hne : Lit.int .i64 q.pn ≠ Lit.int .i64 p.pn := fun e2 => by
        have e3 : q.pn = p.pn := by simpa using e2
        omega
      rw [atKey_put_other hne]
      exact h.at_ q hq z
    · rw [List.mem_singleton.1 hq, atKey_put_same h.tidy.isMap (isKey _)]
theorem HoldsPk.del {D : DataW Value} {l : List Pk} (h : HoldsPk D l) (x : Int) : HoldsPk (D.del (.int .i64 x)) (l.filter fun p => p.pn != x) := by
  refine ⟨h.tidy.del _, fun y => ?_, fun q hq z => ?_⟩
  · by_cases e : y = x
    · subst e
      rw [has_del_same]
      simp
    · rw [has_del_other (fun e2 => e (by cases e2; rfl)), h.mem]
      constructor
      · rintro ⟨q, hq, rfl⟩; exact ⟨q, List.mem_filter.2 ⟨hq, by simpa using e⟩, rfl⟩
      · rintro ⟨q, hq, rfl⟩; exact ⟨q, (List.mem_filter.1 hq).1, rfl⟩
  · obtain ⟨h1, h2⟩ := List.mem_filter.1 hq
    have h2 : q.pn ≠ x := by simpa using h2
    rw [atKey_del_other (fun e2 => h2 (by cases e2; rfl))]
    exact h.at_ q h1 z
theorem Up.app {nx : Int} {l : List Pk} (h : Up nx l) (p : Pk) (hp : p.pn = nx) (h0 : 0 ≤ nx) (hf : ∃ a n c, p.fv = .slice a n c) : Up (nx + 1) (l ++ [p]) := by
  refine ⟨List.pairwise_append.2 ⟨h.inc, by simp, fun a ha b hb => ?_⟩, fun q hq => ?_, fun q hq => ?_⟩
  · rw [List.mem_singleton.1 hb, hp]; exact (h.bnd a ha).2
  · rcases List.mem_append.1 hq with hq | hq
    · have := h.bnd q hq; omega
    · rw [List.mem_singleton.1 hq]; omega
  · rcases List.mem_append.1 hq with hq | hq
    · exact h.fvs q hq
    · rw [List.mem_singleton.1 hq]; exact hf
theorem Up.filter {nx : Int} {l : List Pk} (h : Up nx l) (f : Pk → Bool) : Up nx (l.filter f) := ⟨h.inc.sublist List.filter_sublist, fun q hq => h.bnd q (List.mem_filter.1 hq).1, fun q hq => h.fvs q (List.mem_filter.1 hq).1⟩
/-- block M is a map of at most nn entries that holds the packets -/
def MapPk (w : World) (M nn : Nat) (l : List Pk) : Prop := ∃ D, MapAt w 3 M nn D ∧ HoldsPk D l
theorem MapAt.of_block {w w' : World} {k : TypeId} {b n : Nat} {D : DataW Value} (h : MapAt w k b n D) (hb : w'.heap[b]? = w.heap[b]?) : MapAt w' k b n D := by
  obtain ⟨es, clock, h1, Ft, hs, hD⟩ := h
  exact ⟨es, clock, hb.trans h1, Ft, hs, hD⟩
theorem MapPk.of_block {w w' : World} {M nn : Nat} {l : List Pk} (h : MapPk w M nn l) (hb : w'.heap[M]? = w.heap[M]?) : MapPk w' M nn l := by
  obtain ⟨D, h1, h2⟩ := h
  exact ⟨D, h1.of_block hb, h2⟩
theorem MapPk.lt {w : World} {M nn : Nat} {l : List Pk} (h : MapPk w M nn l) : M < w.heap.size := by
  obtain ⟨D, h1, h2⟩ := h
  exact h1.lt
theorem zero32 : ∃ z, ∀ w, (zeroValue 39).run Tryz.prog w = .ok z w := ⟨_, fun w => Tryz.zeroValue39 w⟩
theorem MapPk.look {w : World} {M nn : Nat} {l : List Pk} (h : MapPk w M nn l) {p : Pk} (hp : p ∈ l) (hw : (Lit.int .i64 p.pn).wf = true) : (Instr.lookup 57 (.map (some M)) (.int .i64 p.pn) false).run Tryz.prog w = .ok p.val w := by
  obtain ⟨D, h1, h2⟩ := h
  exact h1.look (t := 57) (e := 39) (K := Maps.int_keyed Tryz.underlying3) Tryz.underlying57 (Tryz.zeroValue39 w) (Maps.keyOf_int_mk Tryz.underlying3 hw) (h2.at_ p hp _)
theorem keys_sorted {D : DataW Value} {l : List Pk} {nx : Int} (h : HoldsPk D l) (hu : Up nx l) (hk : ∀ es, D = .map es → ∀ p ∈ es, ∃ x, p.1 = .int .i64 x) {ss : List Int} (hs : ss.Perm (intKeys D)) :
    ss.mergeSort (fun x y => decide (x ≤ y)) = l.map (·.pn) ∧ ss.length = l.length := by
  obtain ⟨es, rfl, ht⟩ := h.tidy
  have hnd : (l.map (·.pn)).Nodup := List.pairwise_map.2 (hu.inc.imp fun h e => by omega)
  have hp := perm_intKeys ht (hk es rfl) hnd (fun x => by rw [h.mem, List.mem_map])
  have hp2 : ss.Perm (l.map (·.pn)) := hs.trans hp.symm
  refine ⟨?_, by rw [hp2.length_eq, List.length_map]⟩
  refine List.Perm.eq_of_pairwise (le := fun a b => a ≤ b) (fun a b _ _ h1 h2 => Int.le_antisymm h1 h2) ?_ ?_ ((List.mergeSort_perm _ _).trans hp2)
  · refine (List.pairwise_mergeSort (le := fun x y : Int => decide (x ≤ y)) (fun a b c h1 h2 => by simp only [decide_eq_true_eq] at *; omega) (fun a b => by simp only [Bool.or_eq_true, decide_eq_true_eq]; omega) ss).imp fun h => by simpa using h
  · exact List.pairwise_map.2 (hu.inc.imp fun h => by omega)
theorem MapAt.keys {w : World} {b n : Nat} {D : DataW Value} (h : MapAt w 3 b n D) : ∀ es, D = .map es → ∀ p ∈ es, ∃ x, p.1 = .int .i64 x := by
  obtain ⟨es, rfl, hko⟩ := World.ownsMap.keysOf h
  rintro es' e p hp
  cases e
  obtain ⟨v, hv⟩ := hko p hp
  obtain ⟨x, _, hx, _⟩ := Maps.keyOf_i64 Tryz.underlying3 hv
  exact ⟨x, hx⟩
/-- the cells of a row of packets -/
def pcs (l : List Pk) : List Value := l.flatMap fun p => p.cells.toList
theorem pcs_length (l : List Pk) : (pcs l).length = l.length * 5 := by
  induction l with
  | nil => rfl
  | cons p l ih => simp [pcs, Pk.cells] at ih ⊢; omega
theorem pcs_snoc (l : List Pk) (p : Pk) : pcs (l ++ [p]) = pcs l ++ p.cells.toList := by simp [pcs]
theorem pcs_at (l : List Pk) (k j : Nat) (hk : k < l.length) (hj : j < 5) : (pcs l)[k * 5 + j]? = (l[k]'hk).cells.toList[j]? := by
  induction l generalizing k with
  | nil => simp at hk
  | cons p l ih =>
    cases k with
    | zero => simp only [pcs, List.flatMap_cons, Nat.zero_mul, Nat.zero_add, List.getElem_cons_zero]; rw [List.getElem?_append_left (by simp [Pk.cells]; exact hj)]
    | succ k =>
      simp only [pcs, List.flatMap_cons, List.getElem_cons_succ]
      rw [List.getElem?_append_right (by simp [Pk.cells]; omega)]
      have := ih k (by simpa using hk)
      rw [← this]
      simp only [pcs]
      congr 1
      simp [Pk.cells]; omega
theorem Pk.one (p : Pk) (h : ∃ a n c, p.fv = .slice a n c) : ∀ u ∈ p.cells.toList, u.oneCell' = true := by
  obtain ⟨a, n, c, e⟩ := h
  intro u hu
  simp [Pk.cells, e] at hu
  rcases hu with rfl | rfl | rfl | rfl | rfl <;> rfl
theorem info39 : (Tryz.prog.info? 39).map (fun i => (i.zero, i.size, i.bytes)) = some (some (.agg #[.int .i64 0, .int .i64 0, .int .i64 0, .bool false, .slice none 0 0]), 5, 56) := by kernel_rfl
theorem size39 : (Tryz.prog.info? 39).map (·.size) = some 5 := by kernel_rfl
end Go.Proofs.YtpfkeohaaeiaaaaGreat
