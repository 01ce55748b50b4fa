/- Texts Rpd of this claim, one behind the other. -/
import Derived.RangeFuncNested
import Derived.RangeFuncBound
import Derived.RangeFuncCalls
import Derived.RangeFuncLeaves
import Derived.RangeFuncBox
import Derived.Shelf.Abstract
import Derived.Shelf.RegionOpen
import Derived.WalkKit
import Derived.OwnWalkIn
import Derived.TacticsInMore
import Derived.LoopNIn
import Derived.LoopIn
import Derived.Laws.EntriesVeiled
import Derived.Stop.RegionWithIn
import Derived.Test.YtpfkeohaaeiaaaaGreatDoorRc12
import Derived.Test.YtpfkeohaaeiaaaaGreatDoorRc13
/- Reassembly: overlap and its iterator. -/
namespace Go.Proofs.YtpfkeohaaeiaaaaGreatDoor.rea
open Go.RowKit Go.Shelf
set_option maxRecDepth 100000
attribute [local go_sem] Oper.semAt_some
def pcO (off : Nat) (s : ByteArray) (fin : Bool) : Array Value := #[.int .i64 off, .string s, .bool fin]
set_option maxRecDepth 100000 in
theorem over_any (b : Nat) (off : Nat) (s : ByteArray) (fin : Bool) (w : World) : Calls Tryz.prog 148 #[.pointer (some ⟨b, 0, none⟩), .agg (pcO off s fin)] w fun e w' =>
    e = .returned (.func (.func 163) #[] #[.pointer (some ⟨w.heap.size, 0, none⟩), .pointer (some ⟨w.heap.size + 1, 0, none⟩)]) ∧ w' = (w.alloc (.cells #[.pointer (some ⟨b, 0, none⟩)] 177)).alloc (.cells (pcO off s fin) 148) := by
  unfold pcO
  go_enter Tryz.func148, Tryz.ntmps148
  go_wp2
  go_ret
  exact ⟨rfl, rfl⟩
def encO (x : Nat × Nat) : Array Value := #[.int .i64 x.1, .int .i64 x.2]
/-- the iterator's boxes and the struct stay -/
def KpO (B1 B2 b : Nat) (W W' : World) : Prop := W'.heap[B1]? = W.heap[B1]? ∧ W'.heap[B2]? = W.heap[B2]? ∧ W'.heap[b]? = W.heap[b]?
theorem KpO.refl (B1 B2 b : Nat) (W : World) : KpO B1 B2 b W W := ⟨rfl, rfl, rfl⟩
theorem KpO.trans {B1 B2 b : Nat} {x y z : World} (h : KpO B1 B2 b x y) (k : KpO B1 B2 b y z) : KpO B1 B2 b x z := ⟨k.1.trans h.1, k.2.1.trans h.2.1, k.2.2.trans h.2.2⟩
theorem KpO.below {B1 B2 b n : Nat} {x y : World} (h : Below n x y) (h1 : B1 < n) (h2 : B2 < n) (h3 : b < n) : KpO B1 B2 b x y := ⟨h.block B1 h1, h.block B2 h2, h.block b h3⟩
theorem kpO_b {B1 B2 b m : Nat} (h1 : B1 < m) (h2 : B2 < m) (h3 : b < m) (W : World) (l : Nat) (o o' : Obj) (hl : m ≤ l) (h : W.heap[l]? = some o) (_hc : o.isCells = false) (_hw : o.isWalk = false) : KpO B1 B2 b W (W.putObj l o') :=
  have hz := (Array.getElem?_eq_some_iff.1 h).1
  ⟨(grownBy_putObj' W l o').block B1 (by omega) (fun e => by cases e; omega), (grownBy_putObj' W l o').block B2 (by omega) (fun e => by cases e; omega), (grownBy_putObj' W l o').block b (by omega) (fun e => by cases e; omega)⟩
theorem ovl_length (a off : Int) (w n : Nat) : (ovl a off w n).length = ovB a off w n - ovA a off := by simp [ovl]
theorem ovl_take (a off : Int) (w n : Nat) {k : Nat} (hk : k < ovB a off w n - ovA a off) : (ovl a off w n).take (k + 1) = (ovl a off w n).take k ++ [(ovA a off + k, (off + (ovA a off + k : Nat) - a).toNat)] := by
  rw [List.take_add_one, List.getElem?_eq_getElem (by rw [ovl_length]; exact hk)]
  simp [ovl]
theorem ovl_at (a off : Int) (w n : Nat) {k : Nat} (hk : k < ovB a off w n - ovA a off) : (ovA a off + k, (off + (ovA a off + k : Nat) - a).toNat) ∈ ovl a off w n := List.mem_map.2 ⟨k, List.mem_range.2 hk, rfl⟩
set_option maxRecDepth 100000 in
set_option maxHeartbeats 4000000 in
theorem ov_in (n : Nat) (hn : 2 ≤ n) (ly B1 B2 b g1 g2 : Nat) (R : Rb) (off : Nat) (s : ByteArray) (fin : Bool) (hoff : off ≤ 1099511627776) (hs : s.size ≤ 8192) (ha : R.at_ ≤ 1125899906842624) (hw : R.bs.length ≤ 8192) (J Jx : List (Nat × Nat) → World → Prop) {mA : Nat} (hJA : AbidesFrom mA J)
    (hY : ∀ pre x W, x ∈ ovl R.at_ off R.bs.length s.size → J pre W → pre.length < (ovl R.at_ off R.bs.length s.size).length → YieldAt Fence.wide (n - 1) Tryz.prog ly (encO x) W fun e W' =>
      (e = .returned (.bool true) ∧ J (pre ++ [x]) W' ∧ KpO B1 B2 b W W') ∨ (e = .returned (.bool false) ∧ Jx (pre ++ [x]) W'))
    (W : World) (h1 : W.heap[B1]? = some (.cells #[.pointer (some ⟨b, 0, none⟩)] 177 (0, 0))) (h2 : W.heap[B2]? = some (.cells (pcO off s fin) 148 (0, 0))) (hb : W.heap[b]? = some (.cells (R.cells g1 g2) 101 (0, 0))) (h0 : J [] W) :
    CallsIn Fence.wide n Tryz.prog 163 #[.func (.yield ly) #[] #[], .pointer (some ⟨B1, 0, none⟩), .pointer (some ⟨B2, 0, none⟩)] W fun e W' => (∃ v, e = .returned v) ∧
      ((∃ ys, ys = ovl R.at_ off R.bs.length s.size ∧ J ys W') ∨ (∃ pre, (∃ k, k < (ovl R.at_ off R.bs.length s.size).length ∧ pre = (ovl R.at_ off R.bs.length s.size).take (k + 1)) ∧ Jx pre W')) := by
  have HC : Hid (∀ W', KpO B1 B2 b W W' → (W'.cell? ⟨B1, 0, none⟩ = some (.pointer (some ⟨b, 0, none⟩)) ∧ W'.cell? ⟨B2, 0, none⟩ = some (.int .i64 off) ∧ W'.cell? ⟨B2, 1, none⟩ = some (.string s) ∧
      W'.cell? ⟨b, 0, none⟩ = some (.int .i64 R.at_) ∧ W'.cell? ⟨b, 1, none⟩ = some (.slice (some ⟨g1, 0, none⟩) R.bs.length R.bs.length))) := Lib.hid (fun W' hk =>
    ⟨at_whole (hk.1.trans h1) 0 rfl, at_whole (hk.2.1.trans h2) 0 rfl, at_whole (hk.2.1.trans h2) 1 rfl, at_whole (hk.2.2.trans hb) 0 rfl, at_whole (hk.2.2.trans hb) 1 rfl⟩)
  have HJ := Lib.hid h0
  have LT := Lib.hid (fun k hk => ovl_take (R.at_ : Int) (off : Int) R.bs.length s.size (k := k) hk)
  have LA := Lib.hid (fun k hk => ovl_at (R.at_ : Int) (off : Int) R.bs.length s.size (k := k) hk)
  have LL := ovl_length (R.at_ : Int) (off : Int) R.bs.length s.size
  clear h1 h2 hb h0
  generalize ovl (R.at_ : Int) (off : Int) R.bs.length s.size = L at *
  have hA : ovA (R.at_ : Int) (off : Int) = R.at_ - off := by unfold ovA; omega
  have hB : ovB (R.at_ : Int) (off : Int) R.bs.length s.size = max (R.at_ - off) (min s.size (R.at_ + R.bs.length - off)) := by unfold ovB ovA; omega
  rw [hA, hB] at LT LA LL
  clear hA hB
  generalize R.at_ = a at *
  generalize R.bs.length = m at *
  obtain ⟨y0, y1, y2, y3, y4⟩ := HC.out W (KpO.refl _ _ _ _)
  have e1 : IntKind.i64.wrap ((a : Int) - (off : Int)) = (a : Int) - (off : Int) := IntWalk.i64_in _ (by omega)
  have e2 : (if (a : Int) - (off : Int) < 0 then (0 : Int) else (a : Int) - (off : Int)) = ((a - off : Nat) : Int) := by split <;> omega
  refine callsIn_of_wp Tryz.func163 rfl trivial ?_ rfl
  simp only [Tryz.ntmps163, List.size_toArray, List.length_cons, List.length_nil, Nat.reduceAdd, Nat.reduceSub, Array.replicate_succ, Array.replicate_zero, List.push_toArray, List.append_toArray, List.nil_append, List.cons_append]
  gi_wp2_with fail
  refine wpIn_scope_straight ?_
  gi_wp2
  refine wpIn_label ?_
  rw [show ∀ (K : Act → World → Prop) Q a w, Exit.then K Q .normal a w = K a w from fun _ _ _ _ => rfl]
  gi_wp2
  gi_region
  gi_wp2
  have DR := Lib.hid (fun pre wx (h : J pre wx) => hJA pre wx wx.drew none h (grown_drew (grown_refl _ _)) (fun r e => by cases e))
  clear y0 y1 y2 y3 y4 e1 e2 hJA
  gi_loopw [4] (fun i wr => ∃ j : Nat, j ≤ L.length ∧ i = .int .i64 ((a - off + j : Nat) : Int) ∧ J (L.take j) wr ∧ KpO B1 B2 b W wr) (fun i _ => a - off + L.length + 1 - (intOf i).toNat)
  case atStart => exact ⟨0, by omega, rfl, DR.out _ _ HJ.out, KpO.refl _ _ _ _⟩
  case round =>
    obtain ⟨j, hj, rfl, hJ, hk⟩ := hrel
    obtain ⟨y0, y1, y2, y3, y4⟩ := HC.out wr hk
    have HK := Lib.hid hk
    have HJ2 := Lib.hid hJ
    clear HJ hk hJ
    by_cases hlt : j < L.length
    · have hkx : j < max (a - off) (min s.size (a + m - off)) - (a - off) := by omega
      have d0 : ((a - off + j : Nat) : Int) < (s.size : Int) := by omega
      obtain ⟨kk, hkk⟩ : ∃ kk : Nat, (off : Int) + ((a - off + j : Nat) : Int) - (a : Int) = (kk : Int) := ⟨((off : Int) + ((a - off + j : Nat) : Int) - (a : Int)).toNat, by omega⟩
      have hkm : kk < m := by omega
      have hT := LT.out j hkx
      have hM := LA.out j hkx
      rw [hkk, Int.toNat_natCast] at hT hM
      have HT := Lib.hid hT
      have e1 : IntKind.i64.wrap ((off : Int) + ((a - off + j : Nat) : Int)) = (off : Int) + ((a - off + j : Nat) : Int) := IntWalk.i64_in _ (by omega)
      have e2 : IntKind.i64.wrap ((off : Int) + ((a - off + j : Nat) : Int) - (a : Int)) = (kk : Int) := by rw [IntWalk.i64_in _ (by omega)]; exact hkk
      have e3 : IntKind.i64.wrap (((a - off + j : Nat) : Int) + 1) = ((a - off + (j + 1) : Nat) : Int) := by rw [IntWalk.i64_in _ (by omega)]; omega
      have d1 : ((m : Int) ≤ (kk : Int)) = False := eq_false (by omega)
      have d2 : decide ((kk : Int) ≥ (m : Int)) = false := decide_eq_false (by omega)
      obtain ⟨fn, tmps, assign, body, hy, hR⟩ := hY (L.take j) (a - off + j, kk) wr.drew hM (DR.out _ _ HJ2.out) (by rw [List.length_take]; omega)
      simp only [encO] at hy
      have HR := Lib.hid hR
      have HX := Lib.hid (show a - off + (j + 1) ≤ a - off + L.length by omega)
      clear hR hT hM hkk hY
      generalize hii : a - off + j = ii at *
      generalize hi2 : a - off + (j + 1) = i2 at *
      gi_wp2
      gi_region
      gi_wp2
      refine ⟨fun _ => by omega, HR.out.mono ?_⟩
      rintro e W3 (⟨rfl, hJ3, hk3⟩ | ⟨rfl, hJx3⟩)
      · have K3 := Lib.hid (And.intro hJ3 hk3)
        clear hk3 hJ3 hy y0 y1 y2 y3 y4
        gi_wp2
        go_roundw
        case rel => exact ⟨j + 1, by omega, by simp only [Value.int.injEq, true_and]; omega, by rw [HT.out]; exact K3.out.1, HK.out.trans K3.out.2⟩
        case measure => simp [intOf]; omega
      · have K3 := Lib.hid hJx3
        clear hJx3 hy y0 y1 y2 y3 y4
        gi_wp2
        rw [show ∀ (Q : Exit → Act → World → Prop) a w, Exit.noGoto Q .normal a w = Q .normal a w from fun _ _ _ => rfl]
        go_end0
        exact ⟨⟨_, rfl⟩, .inr ⟨_, ⟨j, hlt, HT.out.symm ▸ rfl⟩, K3.out⟩⟩
    · have hjl : j = L.length := by omega
      have TL := Lib.hid (show L.take j = L from by rw [hjl]; exact List.take_length)
      by_cases hin : a - off + j < s.size
      · have d0 : ((a - off + j : Nat) : Int) < (s.size : Int) := by omega
        obtain ⟨kk, hkk⟩ : ∃ kk : Nat, (off : Int) + ((a - off + j : Nat) : Int) - (a : Int) = (kk : Int) := ⟨((off : Int) + ((a - off + j : Nat) : Int) - (a : Int)).toNat, by omega⟩
        have hkm : m ≤ kk := by omega
        have e1 : IntKind.i64.wrap ((off : Int) + ((a - off + j : Nat) : Int)) = (off : Int) + ((a - off + j : Nat) : Int) := IntWalk.i64_in _ (by omega)
        have e2 : IntKind.i64.wrap ((off : Int) + ((a - off + j : Nat) : Int) - (a : Int)) = (kk : Int) := by rw [IntWalk.i64_in _ (by omega)]; exact hkk
        have d1 : ((m : Int) ≤ (kk : Int)) = True := eq_true (by omega)
        have d2 : decide ((kk : Int) ≥ (m : Int)) = true := decide_eq_true (by omega)
        clear hkk hY
        generalize hii : a - off + j = ii at *
        gi_wp2
        gi_region
        gi_wp2
        refine ⟨(fun _ h => by cases h), ?_⟩
        gi_wp2
        rw [show ∀ (Q : Exit → Act → World → Prop) a w, Exit.noGoto Q .normal a w = Q .normal a w from fun _ _ _ => rfl]
        go_end0
        exact ⟨⟨_, rfl⟩, .inl ⟨_, rfl, by have := DR.out _ _ HJ2.out; rw [TL.out] at this; exact this⟩⟩
      · have d0 : (((a - off + j : Nat) : Int) < (s.size : Int)) = False := eq_false (by omega)
        clear hY
        gi_wp2
        rw [show ∀ (Q : Exit → Act → World → Prop) a w, Exit.noGoto Q .normal a w = Q .normal a w from fun _ _ _ => rfl]
        go_end0
        exact ⟨⟨_, rfl⟩, .inl ⟨_, rfl, by have := HJ2.out; rw [TL.out] at this; exact this⟩⟩
theorem ov_stops (n : Nat) (hn : 2 ≤ n) (B1 B2 b g1 g2 : Nat) (R : Rb) (off : Nat) (s : ByteArray) (fin : Bool) (hoff : off ≤ 1099511627776) (hs : s.size ≤ 8192) (ha : R.at_ ≤ 1125899906842624) (hw : R.bs.length ≤ 8192) (W : World)
    (h1 : W.heap[B1]? = some (.cells #[.pointer (some ⟨b, 0, none⟩)] 177 (0, 0))) (h2 : W.heap[B2]? = some (.cells (pcO off s fin) 148 (0, 0))) (hb : W.heap[b]? = some (.cells (R.cells g1 g2) 101 (0, 0))) :
    SeqStopsK Fence.wide n Tryz.prog 163 #[.pointer (some ⟨B1, 0, none⟩), .pointer (some ⟨B2, 0, none⟩)] (fun x : { x : Nat × Nat // x ∈ ovl R.at_ off R.bs.length s.size } => encO x.1) (KpO B1 B2 b) (fun ys => ys.map (·.1) = ovl R.at_ off R.bs.length s.size) (fun _ => True) (ovl (R.at_ : Int) (off : Int) R.bs.length s.size).length W := fun ly J Jx W2 hW hJA hJxA hY h0 => by
  refine (ov_in n hn ly B1 B2 b g1 g2 R off s fin hoff hs ha hw (fun pre W => ∃ pre' : List { x : Nat × Nat // x ∈ ovl R.at_ off R.bs.length s.size }, pre'.map (·.1) = pre ∧ J pre' W) (fun pre W => ∃ pre' : List { x : Nat × Nat // x ∈ ovl R.at_ off R.bs.length s.size }, pre'.map (·.1) = pre ∧ Jx pre' W)
    (mA := W2.heap.size) (fun s A C row hs hg hr => by obtain ⟨p, h1, h2⟩ := hs; exact ⟨p, h1, hJA p A C row h2 hg hr⟩) ?_ W2 ((hW.block B1 (heap_lt h1)).trans h1) ((hW.block B2 (heap_lt h2)).trans h2) ((hW.block b (heap_lt hb)).trans hb) ⟨[], rfl, h0⟩).mono ?_
  · rintro pre x W hx ⟨pre', rfl, hj⟩ hlen
    refine (hY pre' ⟨x, hx⟩ W hj (by simpa using hlen)).mono ?_
    rintro e W' (⟨h1, h2, h3⟩ | ⟨h1, h2⟩)
    · exact .inl ⟨h1, ⟨pre' ++ [⟨x, hx⟩], by simp, h2⟩, h3⟩
    · exact .inr ⟨h1, pre' ++ [⟨x, hx⟩], by simp, h2⟩
  · rintro e W' ⟨h1, h2⟩
    refine ⟨h1, ?_⟩
    rcases h2 with ⟨ys, rfl, ys', e, hj⟩ | ⟨pre, _, pre', _, hj⟩
    · exact .inl ⟨ys', e, hj⟩
    · exact .inr ⟨pre', trivial, hj⟩
end Go.Proofs.YtpfkeohaaeiaaaaGreatDoor.rea
