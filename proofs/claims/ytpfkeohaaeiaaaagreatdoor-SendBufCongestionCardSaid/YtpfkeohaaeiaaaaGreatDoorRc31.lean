/- Texts Lmj Lml Loc Lmh of this claim, one behind the other. -/
import Derived.Test.YtpfkeohaaeiaaaaGreatDoorRc30
import Derived.Deep.RegionHeld3
import Derived.Deep.RegionWith
import Derived.Test.YtpfkeohaaeiaaaaGreatDoorRc20
import Derived.Test.YtpfkeohaaeiaaaaGreatDoorRc6
/- SendBufReliable: reply. -/
namespace Go.Proofs.YtpfkeohaaeiaaaaGreatDoor
open Go.RowKit
set_option maxRecDepth 100000
def ackFr (dl : Int) (v : Value) : Fr := ⟨2, 0, 0, ⟨#[]⟩, false, 0, 0, false, dl, v, 0, 0, ⟨#[]⟩⟩
theorem rowG_rg2 {zs : List Int} {n : Nat} {top lg wh few : Int} (h : frm.Tg zs n top lg wh few) (hn16 : n ≤ 16) (hn : 1 ≤ n) (ht : top ≤ 100000) : frm.RgOk n (frm.fF (frm.rowK zs n n)) (frm.fT (frm.rowK zs n n)) := by
  refine ⟨hn, hn16, fun k hk => ?_⟩
  obtain ⟨e1, e2⟩ := frm.rowK_at zs n k hk
  have hr := h.rg (n - 1 - k) (by omega)
  rw [e1, e2]
  refine ⟨hr.1, hr.2.1, by omega, ?_⟩
  cases k with
  | zero => show _ < (281474976710658 : Int); omega
  | succ k =>
    show _ < frm.fF (frm.rowK zs n n) k
    rw [(frm.rowK_at zs n k (by omega)).1]
    exact h.gap _ _ (by omega) (by omega)
/-- every number that the Tracker holds lies below the end of the last interval -/
theorem rowG_last {zs : List Int} {n : Nat} {top lg wh few : Int} (h : frm.Tg zs n top lg wh few) {i : Int} (hc : frm.covB zs n i = true) : i ≤ frm.fT (frm.rowK zs n n) 0 - 1 := by
  obtain ⟨k, hk, h1, h2⟩ := frm.covB_iff.1 hc
  rw [(frm.rowK_at zs n 0 (by omega)).2]
  by_cases e : k = n - 1
  · subst e; simp only [Nat.sub_zero]; omega
  · have := h.gap k (n - 1) (by omega) (by omega)
    have := h.rg (n - 1) (by omega)
    simp only [Nat.sub_zero]; omega
/-- the slots of reply's first region -/
def sl15 (i : Nat) : Option Nat := ([some 9, some 10, some 11, some 12, some 13, some 14, some 15, some 16, some 17, some 8, some 18, some 19, some 3, none, some 4] : List (Option Nat)).getD i none
theorem sl15_lt : ∀ i, i < 15 → ∀ d, sl15 i = some d → d < 20 := fun i hi d h => by
  have hjj : i = 0 ∨ i = 1 ∨ i = 2 ∨ i = 3 ∨ i = 4 ∨ i = 5 ∨ i = 6 ∨ i = 7 ∨ i = 8 ∨ i = 9 ∨ i = 10 ∨ i = 11 ∨ i = 12 ∨ i = 13 ∨ i = 14 := by omega
  rcases hjj with rfl | rfl | rfl | rfl | rfl | rfl | rfl | rfl | rfl | rfl | rfl | rfl | rfl | rfl | rfl <;> cases h <;> decide
theorem sl15_inj : ∀ i, i < 15 → ∀ j, j < 15 → sl15 i = sl15 j → sl15 i ≠ none → i = j := by decide
theorem sl15_ne0 : ∀ i, i < 15 → sl15 i ≠ some 0 := by decide
abbrev zero56 : Array Value := #[.int .i64 0, .int .i64 0, .int .i64 0, .string ⟨#[]⟩, .bool false, .int .i64 0, .int .i64 0, .bool false, .int .i64 0, .slice none 0 0, .int .i64 0, .int .i64 0, .string ⟨#[]⟩]
def valR (A : Lad) (dl : Int) (n now : Nat) (x : Nat × Nat) (jj : Nat) : Value := (#[.pointer (some ⟨A.lb, 0, none⟩), .pointer (some ⟨A.lb, 0, none⟩), .pointer (some ⟨A.lb, 3, none⟩), .pointer (some ⟨A.tb, 0, none⟩), .pointer (some ⟨A.lb, 0, none⟩), .pointer (some ⟨A.lb, 0, none⟩), .pointer (some ⟨A.lb, 6, none⟩), .int .i64 now, .tuple #[.agg (frm.ackE dl (.slice (some ⟨x.2, 0, none⟩) n n)), .bool true], .tuple #[.agg (frm.ackE dl (.slice (some ⟨x.2, 0, none⟩) n n)), .bool true], .agg (frm.ackE dl (.slice (some ⟨x.2, 0, none⟩) n n)), .bool true, .pointer (some ⟨x.1, 0, none⟩), undef, .bool true] : Array Value)[jj]?.getD undef
theorem valR_eq (A : Lad) (dl : Int) (n now : Nat) {x y : Nat × Nat} {jj : Nat} (h8 : jj = 8 ∨ jj = 9 ∨ jj = 10 → x.2 = y.2) (h12 : jj = 12 → x.1 = y.1) : valR A dl n now x jj = valR A dl n now y jj := by
  obtain ⟨a, b⟩ := x
  obtain ⟨c, d⟩ := y
  match jj with
  | 0 | 1 | 2 | 3 | 4 | 5 | 6 | 7 | 11 | 13 | 14 => rfl
  | 8 => obtain rfl : b = d := h8 (.inl rfl); rfl
  | 9 => obtain rfl : b = d := h8 (.inr (.inl rfl)); rfl
  | 10 => obtain rfl : b = d := h8 (.inr (.inr rfl)); rfl
  | 12 => obtain rfl : a = c := h12 rfl; rfl
  | _ + 15 => rfl
structure WR1 (w : World) (dl : Int) (n : Nat) (xs : List Value) (tb g : Nat) (L : Nat → Bool) (w' : World) : Prop where
  b : Below w.heap.size w w'
  m : L 12 = true → w.heap.size ≤ tb ∧ w'.heap[tb]? = some (.cells (if L 13 then frm.ackE dl (.slice (some ⟨g, 0, none⟩) n n) else zero56) 56 (0, 0))
  r : L 8 = true → w'.ownsRow w.heap.size 103 2 (.slice (some ⟨g, 0, none⟩) n n) n xs
  o : L 13 = true → L 12 = true ∧ L 8 = true
  c : L 8 = false → L 9 = false ∧ L 10 = false
theorem WR1.mono {w w' : World} {dl : Int} {n tb g : Nat} {xs : List Value} {L : Nat → Bool} (h : WR1 w dl n xs tb g L w') (i : Nat) (h8 : i ≠ 8) (h12 : i ≠ 12) (h13 : i ≠ 13) (h9 : i = 9 ∨ i = 10 → L 8 = true) : WR1 w dl n xs tb g (fun j => j == i || L j) w' := by
  have e : ∀ k, k ≠ i → (k == i || L k) = L k := fun k hk => by simp [hk]
  refine ⟨h.b, fun hL => ?_, fun hL => ?_, fun hL => ?_, fun hL => ?_⟩
  · rw [e 12 (Ne.symm h12)] at hL
    rw [e 13 (Ne.symm h13)]; exact h.m hL
  · rw [e 8 (Ne.symm h8)] at hL; exact h.r hL
  · rw [e 13 (Ne.symm h13)] at hL
    rw [e 12 (Ne.symm h12), e 8 (Ne.symm h8)]; exact h.o hL
  · rw [e 8 (Ne.symm h8)] at hL
    have hc := h.c hL
    have n9 : 9 ≠ i := fun e2 => by rw [h9 (.inl e2.symm)] at hL; cases hL
    have n10 : 10 ≠ i := fun e2 => by rw [h9 (.inr e2.symm)] at hL; cases hL
    rw [e 9 n9, e 10 n10]; exact hc
def valN (A : Lad) (now : Nat) (x : Nat) (jj : Nat) : Value := (#[.pointer (some ⟨A.lb, 0, none⟩), .pointer (some ⟨A.lb, 0, none⟩), .pointer (some ⟨A.lb, 3, none⟩), .pointer (some ⟨A.tb, 0, none⟩), .pointer (some ⟨A.lb, 0, none⟩), .pointer (some ⟨A.lb, 0, none⟩), .pointer (some ⟨A.lb, 6, none⟩), .int .i64 now, .tuple #[.agg zero56, .bool false], .tuple #[.agg zero56, .bool false], .agg zero56, .bool false, .pointer (some ⟨x, 0, none⟩), undef, .bool false] : Array Value)[jj]?.getD undef
theorem valN_eq (A : Lad) (now : Nat) {x y : Nat} {jj : Nat} (h12 : jj = 12 → x = y) : valN A now x jj = valN A now y jj := by
  match jj with
  | 0 | 1 | 2 | 3 | 4 | 5 | 6 | 7 | 8 | 9 | 10 | 11 | 13 | 14 => rfl
  | 12 => obtain rfl : x = y := h12 rfl; rfl
  | _ + 15 => rfl
structure WRN (w : World) (tb : Nat) (L : Nat → Bool) (w' : World) : Prop where
  b : Below w.heap.size w w'
  m : L 12 = true → w.heap.size ≤ tb ∧ w'.heap[tb]? = some (.cells zero56 56 (0, 0))
theorem WRN.mono {w w' : World} {tb : Nat} {L : Nat → Bool} (h : WRN w tb L w') (i : Nat) (h12 : i ≠ 12) : WRN w tb (fun j => j == i || L j) w' :=
  ⟨h.b, fun hL => h.m (by simpa [Ne.symm h12] using hL)⟩
structure RpF (K K' : frm.Rc) (zs : List Int) (n : Nat) (la : List frm.Pk) : Prop where
  cl : ∀ p ∈ K.l, frm.covB zs n p.pn = true → p ∈ la
  cg : ∀ i, frm.covB zs n i = true → i ≤ K'.lg
set_option maxHeartbeats 8000000 in
theorem reply_any {W w : World} {N lim : Nat} {A : Lad} {F : Nat → Prop} {X : Wh} {K : frm.Rc} {hs : List Fr} {R : rea.Rb} {zs : List Int} {n top now : Nat} {L : Lnk} {AV LV : List frm.Pk} {H : Nat → Option Obj}
    (h : Ls W w A F X K hs R zs L AV LV H) (hI : LInv N lim X K hs R zs n top now) (hnow : L.now = (now : Int)) (h1 : now ≤ 10000) (hlen : hs.length ≤ 10000) (hAV : AV.length ≤ 5000) (hLV : LV.length ≤ 5000) :
    Calls Tryz.prog 33 #[.pointer (some ⟨A.lb, 0, none⟩)] w fun ex w' => ex = .returned (.bool true) ∧ ∃ F' X' K' la ll a e av lv H', SetPost W w' N lim A hs R zs n top now L AV LV X K F' X' K' la ll a e av lv H' ∧ RpF K K' zs n la := by
  obtain ⟨lg, wh, few, t1, t2, t3, t4, t5, t6⟩ := hI.tk
  have htp := hI.tp
  have hn16 := hI.n16
  have hKl : K.l.length ≤ 10000 := by have := hI.ko.len; have := hI.nx; omega
  rcases Nat.eq_zero_or_pos n with hn0 | hn0
  · subst hn0
    have NONE : Hid (RpF K K zs 0 []) := Lib.hid ⟨fun p _ hc => by
      obtain ⟨k, hk, _⟩ := frm.covB_iff.1 hc; omega, fun i hc => by
      obtain ⟨k, hk, _⟩ := frm.covB_iff.1 hc; omega⟩
    have mz : frm.zg zs 34 = 0 := t1.many
    obtain ⟨got, en, nw, idle, av, lv⟩ := L
    simp only at hnow
    subst hnow
    have HS := Lib.hid h
    have c3 : w.cell? ⟨A.lb, 3, none⟩ = some (.pointer (some ⟨A.tb, 0, none⟩)) := at_whole h.lk 3 rfl
    have c6 : w.cell? ⟨A.lb, 6, none⟩ = some (.int .i64 (now : Int)) := at_whole h.lk 6 rfl
    have HI := Lib.hid hI
    clear h hI t1 t2 t3 t4 t5 t6 htp hn16 hKl
    go_enter Tryz.func33, Tryz.ntmps33
    go_wp2
    have FRB : Hid (∀ wx, Below w.heap.size w wx → Calls Tryz.prog 59 #[.pointer (some ⟨A.tb, 0, none⟩), .int .i64 now] wx fun e w' => e = .returned (.tuple #[.agg zero56, .bool false]) ∧ Below wx.heap.size wx w') := Lib.hid (fun wx hb => (frm.frame_none A.tb now wx (HS.out.same hb).tk mz).mono fun e w' hh => by
      obtain ⟨⟨v, he, hv⟩, hb2⟩ := hh
      subst hv
      exact ⟨he, hb2⟩)
    have LT := Lib.hid (show A.lb < w.heap.size from HS.out.wn.lt HS.out.hl)
    refine rea.any_regionT (τ := Nat) 0 15 sl15 (valN A now) (fun x L w' => WRN w x L w') (tm := fun x => #[.pointer (some ⟨A.lb, 0, none⟩), undef, .bool false, .pointer (some ⟨x, 0, none⟩), .bool false, undef, undef, undef, .tuple #[.agg zero56, .bool false], .pointer (some ⟨A.lb, 0, none⟩), .pointer (some ⟨A.lb, 0, none⟩), .pointer (some ⟨A.lb, 3, none⟩), .pointer (some ⟨A.tb, 0, none⟩), .pointer (some ⟨A.lb, 0, none⟩), .pointer (some ⟨A.lb, 0, none⟩), .pointer (some ⟨A.lb, 6, none⟩), .int .i64 now, .tuple #[.agg zero56, .bool false], .agg zero56, .bool false, undef, undef, undef, undef, undef, undef, undef, undef, undef, undef, undef, undef, undef, undef, undef, undef, undef, undef, undef, undef, undef, undef, undef, undef]) rfl (by kernel_rfl) rfl (fun i d hi h => by have := sl15_lt i hi d h; simp; omega) (fun i j d hi hj h1 h2 => sl15_inj i hi j hj (h1.trans h2.symm) (by rw [h1]; nofun)) ⟨(Below.refl _ w).drew, (fun h => nomatch h)⟩ ?_ (fun x => by kernel_rfl) ?_
    · rintro tb j o hj ho L a w1 hLj hdl hW ⟨hold, hdep⟩
      have o0 := hold 0 sl15_ne0
      simp at o0
      have k3 := (hW.b.cell (p := ⟨A.lb, 3, none⟩) LT.out).trans c3
      have k6 := (hW.b.cell (p := ⟨A.lb, 6, none⟩) LT.out).trans c6
      have hjj : j = 8 ∨ j = 12 ∨ j = 13 ∨ j = 0 ∨ j = 1 ∨ j = 2 ∨ j = 3 ∨ j = 4 ∨ j = 5 ∨ j = 6 ∨ j = 7 ∨ j = 9 ∨ j = 10 ∨ j = 11 ∨ j = 14 := by omega
      rcases hjj with rfl | rfl | rfl | rfl | rfl | rfl | rfl | rfl | rfl | rfl | rfl | rfl | rfl | rfl | rfl
      · cases ho
        simp [Region.binds, sl15] at hdep
        refine ⟨rfl, rfl, fun K hK => ?_⟩
        unfold Oper.wp
        simp [execOp, Oper.upon, resolve, invoke, go_sem, Act.eval, hdep, valN]
        refine (FRB.out w1 hW.b).mono ?_
        rintro e w2 ⟨rfl, hb⟩
        refine hK tb w2 (fun _ _ => rfl) ⟨hW.b.trans (hb.mono hW.b.size), fun h => ?_⟩
        have := hW.m (by simpa using h)
        exact ⟨this.1, heap_below hb this.2⟩
      · cases ho
        refine ⟨rfl, rfl, fun K hK => ?_⟩
        unfold Oper.wp
        simp [execOp, Oper.upon, go_sem]
        refine hK w1.heap.size (w1.alloc (.cells zero56 56)) (fun k hk => valN_eq _ _ (fun h => ?_)) ⟨hW.b.trans (((Below.refl _ w1).alloc (Nat.le_refl _) _).mono hW.b.size), fun _ => ⟨hW.b.size, heap_alloc_new w1 _⟩⟩
        subst h; rw [hLj] at hk; cases hk
      · cases ho
        simp [Region.binds, sl15] at hdep hdl
        refine ⟨rfl, rfl, fun K hK => ?_⟩
        have l12 : L 12 = true := by simp [hdl]
        obtain ⟨m1, m2⟩ := hW.m l12
        refine wp_store_row 56 (.tmp 3) (.tmp 18) rfl tb zero56 (by simp [Act.eval, hdep, valN]) (by simp [Act.eval, hdep, valN]) 56 _ m2 frm.size56 rfl (by simp [Value.oneCell']) (hK tb _ (fun _ _ => rfl) ⟨⟨hW.b.os, hW.b.tape, hW.b.output, by simpa using hW.b.size, fun k hk => (setRow_other w1 tb k _ (by omega)).trans (hW.b.block k hk)⟩, fun _ => ⟨m1, setRow_heap w1 _ _ _ 56 _ m2⟩⟩)
      all_goals (cases ho; simp [Region.binds, sl15] at hdep hdl; refine ⟨rfl, rfl, fun K hK => ?_⟩; unfold Oper.wp; first | (simp [execOp, Oper.upon, go_sem, Act.eval, hdep, o0, k3, k6, valN]; exact hK _ _ (fun _ _ => rfl) (hW.mono _ (by decide))) | (simp [execOp, Oper.upon, go_sem, Act.eval, o0, k3, k6, valN]; exact hK _ _ (fun _ _ => rfl) (hW.mono _ (by decide))))
    · rintro tb L w1 hall hW
      have S1 := Lib.hid (HS.out.same hW.b)
      clear hW hall FRB c3 c6 LT HS
      dsimp only
      go_wp2
      go_ret
      refine ⟨rfl, F, X, K, [], [], fun _ => false, fun _ => false, av, lv, H, ⟨?_, HI.out, Stl.start hs HI.out.ok, ⟨by simp, by simp, by simp [frm.filter_true]⟩, rfl, Int.le_refl _⟩, NONE.out⟩
      rw [List.append_nil, List.append_nil]
      exact S1.out
  · have ONEf : Hid (∀ g : Nat, (ackFr (if wh < (now : Int) then (now : Int) - wh else 0) (.slice (some ⟨g, 0, none⟩) n n)).cells.all (·.oneCell') = true) := Lib.hid (fun g => by simp [ackFr, Fr.cells, Value.oneCell'])
    have FRM := Lib.hid (fun (wx : World) (hx : frm.TkAt wx A.tb zs) => frm.frameG_any A.tb now wx hx t1 hn16 hn0 (by omega) (by omega) t4 (by omega))
    have ACK : Hid (∀ (wx : World) (Hx : Nat → Option Obj) (g : Nat), Ls W wx A F X K hs R zs L AV LV Hx → wx.ownsRow w.heap.size 103 2 (.slice (some ⟨g, 0, none⟩) n n) n (frm.scs (frm.rowK zs n n)) →
        Calls Tryz.prog 60 #[.pointer (some ⟨A.rb, 0, none⟩), .int .i64 now, .agg (frm.ackE (if wh < (now : Int) then (now : Int) - wh else 0) (.slice (some ⟨g, 0, none⟩) n n)), .int .i64 8] wx (frm.AckPost A.rb A.M K n (frm.fF (frm.rowK zs n n)) (frm.fT (frm.rowK zs n n)) now 8 wx)) := Lib.hid (fun wx Hx g hx hr => by
      have hlr : (frm.rowK zs n n).length = n := frm.rowK_len zs n n
      obtain ⟨g', cap, cur, e1, e2, e3, e4⟩ := frm.spans_of_row (l := frm.rowK zs n n) (by rw [hlr]; exact hr) (by rw [hlr]; exact hn0)
      rw [hlr] at e1 e3
      refine frm.ack_any hx.rcA hI.ko _ _ n _ _ now 8 (by split <;> omega) (by split <;> omega) (rowG_rg2 t1 hn16 hn0 (by omega)) e3 (by omega) (by decide) (by omega) (by decide) ?_ (fun g2 o c e => ?_)
      · have := frm.rowG_top t1 hn0
        have := hI.nx
        omega
      · cases e
        cases e1
        intro e
        have := hx.wn.at hx.hr
        rw [← e, e4] at this
        exact cells_ne (by decide) (Option.some.inj this))
    have SET : Hid (∀ (w0 wx : World) (Hx : Nat → Option Obj) (va vl : Value), Ls W w0 A F X K hs R zs L AV LV Hx → frm.PkRow w0.heap.size wx va (K.l.filter (frm.akF n (frm.fF (frm.rowK zs n n)) (frm.fT (frm.rowK zs n n)))) →
        frm.PkRow w0.heap.size wx vl ((K.ack n (frm.fF (frm.rowK zs n n)) (frm.fT (frm.rowK zs n n))).l.filter (frm.exF (K.ack n (frm.fF (frm.rowK zs n n)) (frm.fT (frm.rowK zs n n))).lg now 8)) →
        frm.RecAt wx A.rb A.M ((K.ack n (frm.fF (frm.rowK zs n n)) (frm.fT (frm.rowK zs n n))).cut (frm.exF (K.ack n (frm.fF (frm.rowK zs n n)) (frm.fT (frm.rowK zs n n))).lg now 8)) → frm.Tu A.rb A.M w0 wx →
        Calls Tryz.prog 34 #[.pointer (some ⟨A.lb, 0, none⟩), va, vl] wx fun ex w' => ex = .returned (.bool true) ∧ ∃ F' X' K' la ll a e av lv H', SetPost W w' N lim A hs R zs n top now L AV LV X K F' X' K' la ll a e av lv H' ∧ RpF K K' zs n la) := Lib.hid (fun w0 wx Hx va vl hx ha hl hR hT => by
      have htop := frm.rowG_top t1 hn0
      have hnx := hI.nx
      have hll : ((K.ack n (frm.fF (frm.rowK zs n n)) (frm.fT (frm.rowK zs n n))).l.filter (frm.exF (K.ack n (frm.fF (frm.rowK zs n n)) (frm.fT (frm.rowK zs n n))).lg now 8)).length ≤ 10000 := Nat.le_trans (List.length_filter_le _ _) (Nat.le_trans (List.length_filter_le _ _) hKl)
      have hla : (K.l.filter (frm.akF n (frm.fF (frm.rowK zs n n)) (frm.fT (frm.rowK zs n n)))).length ≤ 10000 := Nat.le_trans (List.length_filter_le _ _) hKl
      refine (settle_ls (K' := (K.ack n (frm.fF (frm.rowK zs n n)) (frm.fT (frm.rowK zs n n))).cut (frm.exF (K.ack n (frm.fF (frm.rowK zs n n)) (frm.fT (frm.rowK zs n n))).lg now 8)) (a := frm.akF n (frm.fF (frm.rowK zs n n)) (frm.fT (frm.rowK zs n n))) (e := frm.exF (K.ack n (frm.fF (frm.rowK zs n n)) (frm.fT (frm.rowK zs n n))).lg now 8)
        hx hI hR hT ⟨rfl, rfl, rfl⟩ ((hI.ko.ack n _ _ (by omega)).cut _) rfl (by show K.lg ≤ max K.lg _; omega) (fun p hp => ?_) ha.1 ha.2.1 hl.1 hl.2.1 (Nat.le_trans (Nat.add_le_add hAV hla) (by decide)) (Nat.le_trans (Nat.add_le_add hLV hll) (by decide))).mono fun ex w' hh => ?_
      · have := (List.mem_filter.1 hp).2
        unfold frm.akF at this
        rw [frm.row_cov] at this; exact this
      · obtain ⟨he, F', X', av, lv, H', sp⟩ := hh
        refine ⟨he, F', X', _, _, _, _, _, av, lv, H', sp, fun p hp hc => List.mem_filter.2 ⟨hp, ?_⟩, fun i hc => ?_⟩
        · unfold frm.akF
          rw [frm.row_cov]; exact hc
        · have := rowG_last t1 hc
          show i ≤ max K.lg _
          omega)
    obtain ⟨got, en, nw, idle, av, lv⟩ := L
    simp only at hnow
    subst hnow
    have HS := Lib.hid h
    have c3 : w.cell? ⟨A.lb, 3, none⟩ = some (.pointer (some ⟨A.tb, 0, none⟩)) := at_whole h.lk 3 rfl
    have c6 : w.cell? ⟨A.lb, 6, none⟩ = some (.int .i64 (now : Int)) := at_whole h.lk 6 rfl
    clear h hI t1 t2 t3 t4 t5 t6 htp hn16 hKl
    generalize (if wh < (now : Int) then (now : Int) - wh else 0) = dl at *
    go_enter Tryz.func33, Tryz.ntmps33
    go_wp2
    have FRB : Hid (∀ wx, Below w.heap.size w wx → Calls Tryz.prog 59 #[.pointer (some ⟨A.tb, 0, none⟩), .int .i64 now] wx (frm.FrPost zs n dl wx)) := Lib.hid (fun wx hb => FRM.out wx (HS.out.same hb).tk)
    have LT := Lib.hid (show A.lb < w.heap.size from HS.out.wn.lt HS.out.hl)
    refine rea.any_regionT (τ := Nat × Nat) (0, 0) 15 sl15 (valR A dl n now)
      (fun x L w' => WR1 w dl n (frm.scs (frm.rowK zs n n)) x.1 x.2 L w') (tm := fun x => #[.pointer (some ⟨A.lb, 0, none⟩), undef, .bool false, .pointer (some ⟨x.1, 0, none⟩), .bool true, undef, undef, undef, .tuple #[.agg (frm.ackE dl (.slice (some ⟨x.2, 0, none⟩) n n)), .bool true], .pointer (some ⟨A.lb, 0, none⟩), .pointer (some ⟨A.lb, 0, none⟩), .pointer (some ⟨A.lb, 3, none⟩), .pointer (some ⟨A.tb, 0, none⟩), .pointer (some ⟨A.lb, 0, none⟩), .pointer (some ⟨A.lb, 0, none⟩), .pointer (some ⟨A.lb, 6, none⟩), .int .i64 now, .tuple #[.agg (frm.ackE dl (.slice (some ⟨x.2, 0, none⟩) n n)), .bool true], .agg (frm.ackE dl (.slice (some ⟨x.2, 0, none⟩) n n)), .bool true, undef, undef, undef, undef, undef, undef, undef, undef, undef, undef, undef, undef, undef, undef, undef, undef, undef, undef, undef, undef, undef, undef, undef, undef]) rfl (by kernel_rfl) rfl (fun i d hi h => by have := sl15_lt i hi d h; simp; omega) (fun i j d hi hj h1 h2 => sl15_inj i hi j hj (h1.trans h2.symm) (by rw [h1]; nofun)) ⟨(Below.refl _ w).drew, (fun h => nomatch h), (fun h => nomatch h), (fun h => nomatch h), fun _ => ⟨rfl, rfl⟩⟩ ?_ (fun x => by kernel_rfl) ?_
    · rintro ⟨tb, g⟩ j o hj ho L a w1 hLj hdl hW ⟨hold, hdep⟩
      have o0 := hold 0 sl15_ne0
      simp at o0
      have k3 := (hW.b.cell (p := ⟨A.lb, 3, none⟩) LT.out).trans c3
      have k6 := (hW.b.cell (p := ⟨A.lb, 6, none⟩) LT.out).trans c6
      have hjj : j = 8 ∨ j = 12 ∨ j = 13 ∨ j = 0 ∨ j = 1 ∨ j = 2 ∨ j = 3 ∨ j = 4 ∨ j = 5 ∨ j = 6 ∨ j = 7 ∨ j = 9 ∨ j = 10 ∨ j = 11 ∨ j = 14 := by omega
      rcases hjj with rfl | rfl | rfl | rfl | rfl | rfl | rfl | rfl | rfl | rfl | rfl | rfl | rfl | rfl | rfl
      · cases ho
        simp [Region.binds, sl15] at hdep
        refine ⟨rfl, rfl, fun K hK => ?_⟩
        unfold Oper.wp
        simp [execOp, Oper.upon, resolve, invoke, go_sem, Act.eval, hdep, valR]
        refine (FRB.out w1 hW.b).mono ?_
        rintro e w2 ⟨g', rfl, hrow, hb⟩
        have l13 : L 13 = false := by
          cases h : L 13 with
          | false => rfl
          | true => have := (hW.o h).2; rw [hLj] at this; cases this
        have l9 := hW.c hLj
        refine hK (tb, g') w2 (fun k hk => valR_eq _ _ _ _ (fun h => ?_) (fun _ => rfl)) ⟨hW.b.trans (hb.mono hW.b.size), fun h => ?_, fun _ => Go.Proofs.ownsRow_base_a hrow hW.b.size, fun h => ?_, fun h => ?_⟩
        · rcases h with rfl | rfl | rfl
          · rw [hLj] at hk; cases hk
          · rw [l9.1] at hk; cases hk
          · rw [l9.2] at hk; cases hk
        · have h12 : L 12 = true := by simpa using h
          have := hW.m h12
          rw [l13] at this
          refine ⟨this.1, ?_⟩
          simp only [show ((13 : Nat) == 8) = false from rfl, Bool.false_or, l13]
          exact heap_below hb this.2
        · simp [l13] at h
        · simp at h
      · cases ho
        refine ⟨rfl, rfl, fun K hK => ?_⟩
        unfold Oper.wp
        simp [execOp, Oper.upon, go_sem]
        have l13 : L 13 = false := by
          cases h : L 13 with
          | false => rfl
          | true => have := (hW.o h).1; rw [hLj] at this; cases this
        refine hK (w1.heap.size, g) (w1.alloc (.cells zero56 56)) (fun k hk => valR_eq _ _ _ _ (fun _ => rfl) (fun h => ?_)) ⟨hW.b.trans (((Below.refl _ w1).alloc (Nat.le_refl _) _).mono hW.b.size), fun _ => ⟨hW.b.size, ?_⟩, fun h => ?_, fun h => ?_, fun h => ?_⟩
        · subst h; rw [hLj] at hk; cases hk
        · simp only [show ((13 : Nat) == 12) = false from rfl, Bool.false_or, l13]
          exact heap_alloc_new w1 _
        · have h8 : L 8 = true := by simpa using h
          exact (hW.r h8).kept (grown_below (r := none) ((Below.refl _ w1).alloc (Nat.le_refl _) _)) (by simp [Value.ownBlock])
        · simp [l13] at h
        · have h8 : L 8 = false := by simpa using h
          have := hW.c h8
          simp [this]
      · cases ho
        simp [Region.binds, sl15] at hdep hdl
        refine ⟨rfl, rfl, fun K hK => ?_⟩
        have l12 : L 12 = true := by simp [hdl]
        have l8 : L 8 = true := by simp [hdl]
        obtain ⟨m1, m2⟩ := hW.m l12
        rw [hLj] at m2
        have hr := hW.r l8
        have hgt : g ≠ tb := fun e => by
          rcases hr.2 with ⟨e2, _⟩ | ⟨g', c', cur, e2, q2, q3, _⟩
          · cases e2
          · cases e2
            rw [e, m2] at q3
            exact cells_ne (by decide) (Option.some.inj q3)
        refine wp_store_row 56 (.tmp 3) (.tmp 18) rfl tb (frm.ackE dl (.slice (some ⟨g, 0, none⟩) n n)) (by simp [Act.eval, hdep, valR]) (by simp [Act.eval, hdep, valR]) 56 _ m2 frm.size56 rfl (by simp [frm.ackE, Value.oneCell']) (hK (tb, g) _ (fun _ _ => rfl) ⟨⟨hW.b.os, hW.b.tape, hW.b.output, by simpa using hW.b.size, fun k hk => (setRow_other w1 tb k _ (by omega)).trans (hW.b.block k hk)⟩, fun _ => ⟨m1, ?_⟩, fun _ => ?_, fun _ => ⟨?_, ?_⟩, fun h => ?_⟩)
        · simp
          exact setRow_heap w1 _ _ _ 56 _ m2
        · exact own_same hr (fun k hk => setRow_other w1 tb k _ (by
            have : g = k := by simpa [Value.ownBlock] using hk
            omega))
        · simp [l12]
        · simp [l8]
        · simp [l8] at h
      all_goals (cases ho; simp [Region.binds, sl15] at hdep hdl; refine ⟨rfl, rfl, fun K hK => ?_⟩; unfold Oper.wp; first | (simp [execOp, Oper.upon, go_sem, Act.eval, hdep, o0, k3, k6, valR]; exact hK _ _ (fun _ _ => rfl) (hW.mono _ (by decide) (by decide) (by decide) (by first | (rintro (h | h) <;> cases h; done) | (intro _; simp [hdl]; done) | (intro _; cases h8 : L 8 with | true => rfl | false => have := (hW.c h8).1; simp [hdl] at this)))) | (simp [execOp, Oper.upon, go_sem, Act.eval, o0, k3, k6, valR]; exact hK _ _ (fun _ _ => rfl) (hW.mono _ (by decide) (by decide) (by decide) (by first | (rintro (h | h) <;> cases h; done) | (intro _; simp [hdl]; done) | (intro _; cases h8 : L 8 with | true => rfl | false => have := (hW.c h8).1; simp [hdl] at this)))))
    · rintro ⟨tb, g⟩ L w1 hall hW
      have m := hW.m (hall 12 (by decide))
      rw [hall 13 (by decide), if_pos rfl] at m
      have TBH := Lib.hid m.2
      have ROW := Lib.hid (hW.r (hall 8 (by decide)))
      have S1 := Lib.hid (HS.out.same hW.b)
      clear hW hall m FRB c3 c6 LT HS ONEf
      dsimp only
      have c1 : w1.cell? ⟨A.lb, 1, none⟩ = some (.pointer (some ⟨A.rb, 0, none⟩)) := at_whole S1.out.lk 1 rfl
      have c6 : w1.cell? ⟨A.lb, 6, none⟩ = some (.int .i64 (now : Int)) := at_whole S1.out.lk 6 rfl
      have x0 := at_whole TBH.out 0 rfl
      have x1 := at_whole TBH.out 1 rfl
      have x2 := at_whole TBH.out 2 rfl
      have x3 := at_whole TBH.out 3 rfl
      have x4 := at_whole TBH.out 4 rfl
      have x5 := at_whole TBH.out 5 rfl
      have x6 := at_whole TBH.out 6 rfl
      have x7 := at_whole TBH.out 7 rfl
      have x8 := at_whole TBH.out 8 rfl
      have x9 := at_whole TBH.out 9 rfl
      have x10 := at_whole TBH.out 10 rfl
      have x11 := at_whole TBH.out 11 rfl
      have x12 := at_whole TBH.out 12 rfl
      simp only [frm.ackE, List.getElem_toArray, List.getElem_cons_zero, List.getElem_cons_succ] at x0 x1 x2 x3 x4 x5 x6 x7 x8 x9 x10 x11 x12
      unfold frm.ackE at *
      have HSX : Hid (∀ w' : World, w'.heap[A.lb]? = w1.heap[A.lb]? → w'.heap[tb]? = w1.heap[tb]? → w'.cell? ⟨A.lb, 1, none⟩ = some (.pointer (some ⟨A.rb, 0, none⟩)) ∧ w'.cell? ⟨A.lb, 6, none⟩ = some (.int .i64 (now : Int)) ∧ w'.cell? ⟨tb, 0, none⟩ = some (.int .i64 2) ∧ w'.cell? ⟨tb, 1, none⟩ = some (.int .i64 0) ∧ w'.cell? ⟨tb, 2, none⟩ = some (.int .i64 0) ∧ w'.cell? ⟨tb, 3, none⟩ = some (.string ⟨#[]⟩) ∧ w'.cell? ⟨tb, 4, none⟩ = some (.bool false) ∧ w'.cell? ⟨tb, 5, none⟩ = some (.int .i64 0) ∧ w'.cell? ⟨tb, 6, none⟩ = some (.int .i64 0) ∧ w'.cell? ⟨tb, 7, none⟩ = some (.bool false) ∧ w'.cell? ⟨tb, 8, none⟩ = some (.int .i64 dl) ∧ w'.cell? ⟨tb, 9, none⟩ = some (.slice (some ⟨g, 0, none⟩) n n) ∧ w'.cell? ⟨tb, 10, none⟩ = some (.int .i64 0) ∧ w'.cell? ⟨tb, 11, none⟩ = some (.int .i64 0) ∧ w'.cell? ⟨tb, 12, none⟩ = some (.string ⟨#[]⟩)) := Lib.hid (fun w' e1 e2 => by
        have k : ∀ i, w'.cell? ⟨A.lb, i, none⟩ = w1.cell? ⟨A.lb, i, none⟩ := fun i => World.cell?_of_block (a := ⟨A.lb, i, none⟩) e1
        have k2 : ∀ i, w'.cell? ⟨tb, i, none⟩ = w1.cell? ⟨tb, i, none⟩ := fun i => World.cell?_of_block (a := ⟨tb, i, none⟩) e2
        exact ⟨(k 1).trans c1, (k 6).trans c6, (k2 0).trans x0, (k2 1).trans x1, (k2 2).trans x2, (k2 3).trans x3, (k2 4).trans x4, (k2 5).trans x5, (k2 6).trans x6, (k2 7).trans x7, (k2 8).trans x8, (k2 9).trans x9, (k2 10).trans x10, (k2 11).trans x11, (k2 12).trans x12⟩)
      have KEEP : Hid (∀ w' : World, frm.Tu A.rb A.M w1.drew w' → w'.heap[A.lb]? = w1.heap[A.lb]? ∧ w'.heap[tb]? = w1.heap[tb]?) := Lib.hid (fun w' hT => by
        obtain ⟨mo, m1, m2, _⟩ := S1.out.hm
        have hmo := S1.out.wn.at m1
        have hrb := S1.out.wn.at S1.out.hr
        have hlb := S1.out.lk
        refine ⟨hT.block A.lb (heap_lt hlb) (fun e => ?_) (fun e => ?_), hT.block tb (heap_lt TBH.out) (fun e => ?_) (fun e => ?_)⟩
        · rw [e, hrb] at hlb; exact cells_ne (by decide) (Option.some.inj hlb)
        · rw [e, hmo] at hlb; exact isC_ne m2 _ _ _ (Option.some.inj hlb)
        · have := TBH.out
          rw [e, hrb] at this; exact cells_ne (by decide) (Option.some.inj this)
        · have := TBH.out
          rw [e, hmo] at this; exact isC_ne m2 _ _ _ (Option.some.inj this))
      clear c1 c6 x0 x1 x2 x3 x4 x5 x6 x7 x8 x9 x10 x11 x12
      go_wp2
      go_region_held3 (fun w' => w'.cell? ⟨A.lb, 1, none⟩ = some (.pointer (some ⟨A.rb, 0, none⟩)) ∧ w'.cell? ⟨A.lb, 6, none⟩ = some (.int .i64 (now : Int)) ∧ w'.cell? ⟨tb, 0, none⟩ = some (.int .i64 2) ∧ w'.cell? ⟨tb, 1, none⟩ = some (.int .i64 0) ∧ w'.cell? ⟨tb, 2, none⟩ = some (.int .i64 0) ∧ w'.cell? ⟨tb, 3, none⟩ = some (.string ⟨#[]⟩) ∧ w'.cell? ⟨tb, 4, none⟩ = some (.bool false) ∧ w'.cell? ⟨tb, 5, none⟩ = some (.int .i64 0) ∧ w'.cell? ⟨tb, 6, none⟩ = some (.int .i64 0) ∧ w'.cell? ⟨tb, 7, none⟩ = some (.bool false) ∧ w'.cell? ⟨tb, 8, none⟩ = some (.int .i64 dl) ∧ w'.cell? ⟨tb, 9, none⟩ = some (.slice (some ⟨g, 0, none⟩) n n) ∧ w'.cell? ⟨tb, 10, none⟩ = some (.int .i64 0) ∧ w'.cell? ⟨tb, 11, none⟩ = some (.int .i64 0) ∧ w'.cell? ⟨tb, 12, none⟩ = some (.string ⟨#[]⟩))
        (first | exact HSX.out _ (KEEP.out _ K2.out.2.2.2).1 (KEEP.out _ K2.out.2.2.2).2 | exact HSX.out _ rfl rfl)
        (first | (go_at_call 60; refine (ACK.out _ _ g (by exact S1.out.same (Below.refl _ w1).drew) (by exact ROW.out.kept (grown_below (r := none) (Below.refl _ w1).drew) (by simp [Value.ownBlock]))).mono ?_; rintro e w2 ⟨va, vl, rfl, ha, hl, hR, hT⟩; have K2 := Lib.hid (And.intro ha (And.intro hl (And.intro hR hT))); clear ha hl hR hT))
      go_wp2_with (go_at_call 34; refine (SET.out _ _ _ va vl (by exact S1.out.same (Below.refl _ w1).drew) K2.out.1 K2.out.2.1 K2.out.2.2.1 K2.out.2.2.2).mono ?_; rintro e w3 ⟨rfl, PP⟩)
      go_ret
      exact ⟨rfl, PP⟩
end Go.Proofs.YtpfkeohaaeiaaaaGreatDoor
/- SendBufReliable: plain laws: one step from end to end. -/
namespace Go.Proofs.YtpfkeohaaeiaaaaGreatDoor
open Go.RowKit
/-- the packets behind the sending: as they were, or one more -/
structure SndF (X X1 : Wh) (K K1 : frm.Rc) (hs hs1 : List Fr) (p : Option (Nat × Nat)) (nw idle idle1 : Nat) : Prop where
  none : p = none → X1 = X ∧ K1 = K ∧ hs1 = hs ∧ idle1 = idle
  some : ∀ a t, p = some (a, t) → X1 = X.frame a t ∧ (∃ fv, K1 = K.add ⟨K.nx, nw, (X.frameR a t).s.size, true, fv⟩) ∧ hs1 = hs ++ [X.frameR a t] ∧ idle1 = 0
/-- how the outstanding packets end: discarded, or lost for a reason -/
structure EndF (K2 K3 : frm.Rc) (e2 : frm.Pk → Bool) (nw idle1 idle3 : Nat) : Prop where
  lg : K3.lg = K2.lg
  wh : (idle1 + 1 ≤ 10 ∧ idle3 = idle1 + 1 ∧ e2 = frm.exF K2.lg nw 8) ∨ (10 < idle1 + 1 ∧ idle3 = 0 ∧ e2 = fun _ => true)
theorem stF_of {N lim : Nat} {X X1 X2 X3 : Wh} {K K1 K2 K3 : frm.Rc} {hs hs1 : List Fr} {R R1 : rea.Rb} {zs zs1 : List Int} {n n1 top top1 nw idle idle1 idle3 : Nat} {size : Int} {p : Option (Nat × Nat)} {la ll ll2 : List frm.Pk} {a e e2 : frm.Pk → Bool} {fate : Int} {z : Bool}
    (hI : LInv N lim X K hs R zs n top nw) (hp : X.nextP size 1000 = p) (h0 : 0 ≤ size) (h1 : size ≤ 100) (hS : SndF X X1 K K1 hs hs1 p nw idle idle1) (hI1 : LInv N lim X1 K1 hs1 R1 zs1 n1 top1 nw) (hA : fate % 2 = 0 → p.isSome = true → frm.covB zs1 n1 K.nx = true)
    (P1 : RepF hs1 X1 X2 K1 K2 la ll a e) (hR : fate / 2 % 2 = 0 → RpF K1 K2 zs1 n1 la) (P2 : RepF hs1 X2 X3 K2 K3 [] ll2 (fun _ => false) e2) (hE : EndF K2 K3 e2 nw idle1 idle3) (hz : z = true → fate % 2 = 0 ∧ fate / 2 % 2 = 0) :
    StF z X X3 K K3 p nw idle idle3 := by
  have s32 := P2.pt.sub.1
  have s21 := P1.pt.sub.1
  have hg1 : ∀ j, gd X.T j = 3 → gd X1.T j = 3 := fun j hj => by
    rcases p with _ | ⟨u, t⟩
    · rw [(hS.none rfl).1]; exact hj
    · rw [(hS.some u t rfl).1, gd_frame hI.ok (Wh.nextP_piece hI.ok hp), if_neg]
      · exact hj
      · rintro ⟨c1, c2⟩
        exact Wh.next_not3 hI.ok hp j c1 c2 hj
  have he1 : X.ed = 3 → X1.ed = 3 := fun he => by
    rcases p with _ | ⟨u, t⟩
    · rw [(hS.none rfl).1]; exact he
    · rw [(hS.some u t rfl).1, ed_frame]
      split
      · rename_i hf
        have := (finT_opn hf).2.2
        omega
      · exact he
  have hlg : K1.lg ≤ K3.lg := by have := P1.lg; have := P2.lg; omega
  refine ⟨?_, ?_, fun j hj => P2.st.keep j (.inl (P1.st.keep j (.inl (hg1 j hj)))), fun he => P2.st.keepE (.inl (P1.st.keepE (.inl (he1 he)))), ?_, fun hn hz1 => ?_, fun u t hs2 hz1 => ?_, fun q hq hc => ?_⟩
  · rw [P2.st.S, P1.st.S]
    rcases p with _ | ⟨u, t⟩
    · rw [(hS.none rfl).1]
    · rw [(hS.some u t rfl).1]; rfl
  · rw [P2.st.fin, P1.st.fin]
    rcases p with _ | ⟨u, t⟩
    · rw [(hS.none rfl).1]
    · rw [(hS.some u t rfl).1]; rfl
  · rcases hE.wh with ⟨w1, w2, _⟩ | ⟨w1, w2, _⟩ <;> omega
  · obtain ⟨_, rfl, _, hid⟩ := hS.none hn
    refine ⟨fun q hq => s21 q (s32 q hq), hlg, ?_⟩
    rcases hE.wh with ⟨w1, w2, _⟩ | ⟨w1, w2, w3⟩
    · exact .inl (by omega)
    · right
      rw [P2.pt.le, w3]
      simp
  · obtain ⟨hz2, hz3⟩ := hz hz1
    obtain ⟨hx1, ⟨fv, hk1⟩, hh1, _⟩ := hS.some u t hs2
    have hcov := hA hz2 (by rw [hs2]; rfl)
    have hRP := hR hz3
    obtain ⟨str, fin, q1, q2, q3, q4, q5, q6⟩ := hI.next (hp.trans hs2) h0 h1
    have hq1 : X.frameR u t = mkFr 8 u str fin := q1
    have hq5 : fin = X.finT t := q5
    have hq2 : str.size = t - u := q2
    have hnx := hI.nx
    have hn0 := hI.ko.n0
    have hmem : (⟨K.nx, nw, (X.frameR u t).s.size, true, fv⟩ : frm.Pk) ∈ K1.l := by rw [hk1]; exact List.mem_append_right _ (List.mem_singleton_self _)
    have hin := hRP.cl _ hmem hcov
    have hfr : frP hs1 ⟨K.nx, nw, (X.frameR u t).s.size, true, fv⟩ = mkFr 8 u str fin := by
      rw [hh1, frP_last hs _ (show K.nx.toNat = hs.length by omega), hq1]
    refine ⟨fun q hq => ?_, ?_, fun j j1 j2 => P2.st.keep j (.inl (P1.st.keep j (.inr ⟨_, hin, ?_⟩))), fun hft => P2.st.keepE (.inl (P1.st.keepE (.inr ⟨_, hin, ?_⟩)))⟩
    · have hq2 := s32 q hq
      have hq1 := s21 q hq2
      rw [hk1] at hq1
      rcases List.mem_append.1 hq1 with h3 | h3
      · exact h3
      · exfalso
        rw [List.mem_singleton.1 h3] at hq2
        exact P1.pt.dj hI1.ko.up _ hq2 _ (.inl hin) rfl
    · have := hRP.cg _ hcov
      have := P2.lg
      omega
    · rw [hfr]
      have e1 : (mkFr 8 (u : Int) str fin).off.toNat = u := by show (u : Int).toNat = u; omega
      refine ⟨by omega, ?_⟩
      show j < (mkFr 8 (u : Int) str fin).off.toNat + str.size
      omega
    · rw [hfr]
      show fin = true
      rw [hq5]; exact hft
  · rcases hE.wh with ⟨w1, w2, w3⟩ | ⟨w1, w2, w3⟩
    · have := hq
      rw [P2.pt.le, w3] at this
      simp only [List.mem_filter, Bool.not_eq_true', frm.exF] at this
      have h4 := this.2
      rw [hE.lg] at hc
      rw [decide_eq_true hc.1, decide_eq_true hc.2] at h4
      simp at h4
    · rw [P2.pt.le, w3] at hq
      simp at hq
/-- the packets of one step: acknowledged, lost, left -/
structure Pk3 (l AV LV l' : List frm.Pk) (a e e2 : frm.Pk → Bool) : Prop where
  av : AV = l.filter a
  lv : LV = (l.filter fun p => !a p).filter e ++ (((l.filter fun p => !a p).filter fun p => !e p).filter e2)
  le : l' = ((l.filter fun p => !a p).filter fun p => !e p).filter fun p => !e2 p
theorem Pk3.of {l la ll l2 ll2 l3 : List frm.Pk} {a e e2 : frm.Pk → Bool} (h1 : Parts l la ll l2 a e) (h2 : Parts l2 [] ll2 l3 (fun _ => false) e2) : Pk3 l la (ll ++ ll2) l3 a e e2 := by
  have e3 : (l2.filter fun p => !(fun _ => false) p) = l2 := by simp [frm.filter_true]
  refine ⟨h1.la, ?_, ?_⟩
  · rw [h2.ll, e3, h1.ll, h1.le]
  · rw [h2.le, e3, h1.le]
end Go.Proofs.YtpfkeohaaeiaaaaGreatDoor
/- SendBufCongestion: the congestion controller's block beside the Link's; the sums of the packets' sizes. -/
namespace Go.Proofs.YtpfkeohaaeiaaaaGreatDoor
open Go.RowKit
set_option maxRecDepth 100000
/-- the Link's addresses beside a controller's block -/
def Lad.wc (A : Lad) (cb : Nat) (c : cgn.Ctl) : Lad := { A with cx := some (cb, c.enc) }
section
variable {W w w' : World} {A : Lad} {F F' : Nat → Prop} {X X' : Wh} {K K' : frm.Rc} {hs : List Fr} {R R' : rea.Rb} {zs zs' : List Int} {L L' : Lnk} {AV LV AV' LV' : List frm.Pk} {H H' : Nat → Option Obj}
/-- only a controller's block has turned, or was laid -/
theorem Ls.base (h : Ls W w A F X K hs R zs L AV LV H) (cx : Option (Nat × Array Value)) (hw : Wn W w' A.b F X H') (hH : ∀ k o, H k = some o → (∀ cs, o ≠ .cells cs 77 (0, 0)) → H' k = some o) (hc : ∀ c, cx = some c → H' c.1 = some (.cells c.2 77 (0, 0))) :
    Ls W w' { A with cx := cx } F X K hs R zs L AV LV H' := by
  obtain ⟨mo, m1, m2, m3⟩ := h.hm
  have e : ∀ {k : Nat} {cs : Array Value} {T : TypeId}, H k = some (.cells cs T (0, 0)) → T ≠ 77 → H' k = some (.cells cs T (0, 0)) := fun hk hT => hH _ _ hk (fun cs => cells_ne hT)
  have mL := hH _ _ m1 (fun cs => isC_ne m2 _ _ _)
  have row : ∀ {v : Value} {l : List frm.Pk}, RowIn H v l → RowIn H' v l := fun hr => by
    rcases hr with hr | ⟨g, cap, cur, r1, r2, r3, r4, r5, r6⟩
    · exact .inl hr
    · exact .inr ⟨g, cap, cur, r1, r2, r3, r4, r5, e r6 (by decide)⟩
  refine ⟨hw, e h.hl (by decide), e h.hr (by decide), ⟨mo, mL, m2, m3.of_block ((hw.at mL).trans (h.wn.at m1).symm)⟩, e h.hb (by decide), e h.h1 (by decide), e h.h2 (by decide), e h.ht (by decide), h.hlen, h.sz, h.zl, fun p hp => ?_, row h.ra, row h.rl, h.rd, hc⟩
  obtain ⟨g, c, cur, f1, f2, f3, f4⟩ := h.fr p hp
  exact ⟨g, c, cur, f1, f2, e f3 (by decide), f4⟩
theorem Ls.addC (h : Ls W w A F X K hs R zs L AV LV H) (c : cgn.Ctl) : ∃ H', Ls W (w.alloc (.cells c.enc 77)) (A.wc w.heap.size c) F X K hs R zs L AV LV H' :=
  ⟨_, h.base _ ((h.wn.same ((Below.refl _ w).alloc (Nat.le_refl _) _)).add (heap_alloc_new w _) (fun hF => by have := (h.wn.own _ hF).2; omega) h.wn.below.size) (fun k o hk _ => by rw [upd_other _ _ (fun e => by rw [e] at hk; have := h.wn.lt hk; omega)]; exact hk) (fun c hc => by cases hc; exact upd_same _ _ _)⟩
theorem Ls.ctl {cb : Nat} {c : cgn.Ctl} (h : Ls W w (A.wc cb c) F X K hs R zs L AV LV H) : cgn.At w cb c := h.wn.at (h.cx _ rfl)
theorem Ls.turnC {cb : Nat} {c c' : cgn.Ctl} (h : Ls W w (A.wc cb c) F X K hs R zs L AV LV H) (hT : cgn.To cb c' w w') : ∃ H', Ls W w' (A.wc cb c') F X K hs R zs L AV LV H' ∧ ∀ k o, H k = some o → (∀ cs, o ≠ .cells cs 77 (0, 0)) → H' k = some o := by
  have hk : ∀ k o, H k = some o → (∀ cs, o ≠ .cells cs 77 (0, 0)) → upd H cb (.cells c'.enc 77 (0, 0)) k = some o := fun k o hk ho => by
    rw [upd_other]
    · exact hk
    · rintro rfl
      rw [h.cx _ rfl] at hk
      cases hk
      exact ho _ rfl
  exact ⟨_, h.base (some (cb, c'.enc)) (h.wn.turn (h.cx _ rfl) hT.2 hT.1) hk (fun c hc => by cases hc; exact upd_same _ _ _), hk⟩
end
/-- the sum of the sizes -/
def tot : List frm.Pk → Int
  | [] => 0
  | p :: l => p.size + tot l
theorem tot_append (l m : List frm.Pk) : tot (l ++ m) = tot l + tot m := by
  induction l with
  | nil => simp [tot]
  | cons p l ih => simp only [List.cons_append, tot, ih]; omega
theorem tot_filter (f : frm.Pk → Bool) (l : List frm.Pk) : tot (l.filter f) + tot (l.filter fun p => !f p) = tot l := by
  induction l with
  | nil => rfl
  | cons p l ih => cases h : f p <;> simp [h, tot] <;> omega
/-- the sizes of the packets with a number -/
def smOf (pn : Int) : List frm.Pk → Int
  | [] => 0
  | p :: l => (if p.pn = pn then p.size else 0) + smOf pn l
theorem smOf_append (pn : Int) (l m : List frm.Pk) : smOf pn (l ++ m) = smOf pn l + smOf pn m := by
  induction l with
  | nil => simp [smOf]
  | cons p l ih => simp only [List.cons_append, smOf, ih]; omega
theorem smOf_filter (pn : Int) (f : frm.Pk → Bool) (l : List frm.Pk) : smOf pn (l.filter f) + smOf pn (l.filter fun p => !f p) = smOf pn l := by
  induction l with
  | nil => rfl
  | cons p l ih => cases h : f p <;> simp [h, smOf] <;> omega
theorem smOf_none {pn : Int} {l : List frm.Pk} (h : ∀ p ∈ l, p.pn ≠ pn) : smOf pn l = 0 := by
  induction l with
  | nil => rfl
  | cons p l ih => simp only [smOf]; rw [if_neg (h p (by simp)), ih (fun q hq => h q (by simp [hq]))]; rfl
/-- no two packets of a list bear one number -/
def Uniq (l : List frm.Pk) : Prop := l.Pairwise fun p q => p.pn ≠ q.pn
theorem Uniq.filter {l : List frm.Pk} (h : Uniq l) (f : frm.Pk → Bool) : Uniq (l.filter f) := List.Pairwise.filter f h
end Go.Proofs.YtpfkeohaaeiaaaaGreatDoor
/- SendBufReliable: arrive: a frame reaches the receiver. -/
namespace Go.Proofs.YtpfkeohaaeiaaaaGreatDoor
open Go.RowKit
set_option maxRecDepth 100000
def Lnk.read (L : Lnk) (g : ByteArray) (e : Bool) : Lnk := { L with got := g, en := e }
structure ArrPost (W w' : World) (N lim : Nat) (A : Lad) (X : Wh) (K : frm.Rc) (hs : List Fr) (top now : Nat) (L : Lnk) (AV LV : List frm.Pk) (F' : Nat → Prop) (R' : rea.Rb) (zs' : List Int) (n' : Nat) (got' : ByteArray) (en' : Bool) (H' : Nat → Option Obj) : Prop where
  ls : Ls W w' A F' X K hs R' zs' (L.read got' en') AV LV H'
  inv : LInv N lim X K hs R' zs' n' top now
  cov : frm.covB zs' n' ((top : Int) - 1) = true
  got : GotOk N R' got' en'
theorem Fr.cell_at {w : World} {b : Nat} {f : Fr} (h : w.heap[b]? = some (.cells f.cells 56 (0, 0))) : w.cell? ⟨b, 2, none⟩ = some (.int .i64 f.off) ∧ w.cell? ⟨b, 3, none⟩ = some (.string f.s) ∧ w.cell? ⟨b, 4, none⟩ = some (.bool f.fin) :=
  ⟨at_whole h 2 rfl, at_whole h 3 rfl, at_whole h 4 rfl⟩
set_option maxHeartbeats 8000000 in
theorem arrive_any {W w : World} {N lim : Nat} {A : Lad} {F : Nat → Prop} {X : Wh} {K : frm.Rc} {hs : List Fr} {R : rea.Rb} {zs : List Int} {n top now : Nat} {L : Lnk} {AV LV : List frm.Pk} {H : Nat → Option Obj} {off : Nat} {str : ByteArray} {fin : Bool} {y0 y1 y2 y3 : Addr}
    (h : Ls W w A F X K (hs ++ [mkFr 8 off str fin]) R zs L AV LV H) (hI : LInv N lim X K (hs ++ [mkFr 8 off str fin]) R zs n top now) (htop : top ≤ hs.length) (hnow : L.now = (now : Int)) (h1 : now ≤ 10000) (hlen : hs.length ≤ 10000) (hE : rea.Errs W y0 y1 y2 y3) (hG : GotOk N R L.got L.en) :
    Calls Tryz.prog 32 #[.pointer (some ⟨A.lb, 0, none⟩), .agg (mkFr 8 off str fin).cells, .int .i64 hs.length] w fun e w' => e = .returned (.bool true) ∧ ∃ zs' n' got' en' H', ArrPost W w' N lim A X K (hs ++ [mkFr 8 off str fin]) (hs.length + 1) now L AV LV F (rdB (R.put off str fin)) zs' n' got' en' H' := by
  obtain ⟨b1, b2, b3, b4⟩ := hI.frB (List.mem_append_right _ (List.mem_singleton_self _))
  have hN0 := hI.N0
  have hsN := hI.rc.sN
  have hr2 := Lib.hid (hI.rc.put b1 b2 b3)
  have POK := Lib.hid (hI.rc.putOk b1 b2 b3 hN0 b4)
  have SFO : Hid (frm.SfOk 0 off str) := Lib.hid ⟨by omega, by omega, by omega, by omega, by omega⟩
  have ONE := Lib.hid (show (mkFr 8 off str fin).cells.all (·.oneCell') = true from ((hI.fro _ (List.mem_append_right _ (List.mem_singleton_self _))).1).one)
  obtain ⟨got, en, nw, idle, av, lv⟩ := L
  simp only at hnow hG
  subst hnow
  have HI := Lib.hid hI
  have HS := Lib.hid h
  have HG := Lib.hid hG
  have EE := Lib.hid hE
  have ENC : Hid (∀ wx, Calls Tryz.prog 54 #[.agg (mkFr 8 off str fin).cells] wx fun e w' => e = .returned (.tuple #[.string (frm.sfS 0 off str fin), .int .i64 0]) ∧ Below wx.heap.size wx w') := Lib.hid (fun wx => frm.Encode_any 0 off str fin wx SFO.out)
  have DEC : Hid (∀ wx, Calls Tryz.prog 55 #[.string (frm.sfS 0 off str fin), .int .i64 0] wx fun e w' => e = .returned (.tuple #[.agg (mkFr 8 off str fin).cells, .int .i64 (frm.sfS 0 off str fin).size, .int .i64 0]) ∧ Below wx.heap.size wx w') := Lib.hid (fun wx => frm.Decode_any 0 off str fin wx SFO.out)
  clear b1 b2 b3 b4 hI h hG hE hN0 hsN
  generalize hf : mkFr 8 (off : Int) str fin = f at *
  have HF := Lib.hid hf
  clear hf
  generalize frm.sfS 0 (off : Int) str fin = enc at *
  have T1 : Hid (1 = 1) := Lib.hid rfl
  go_enter Tryz.func32, Tryz.ntmps32
  go_upto_region 3 with (first
    | (refine wpList_load_own rfl _ rfl f w.heap.size rfl (by exact heap_alloc_new _ _) ?_)
    | (go_at_call 54; refine (ENC.out _).mono ?_; rintro e w1 ⟨rfl, hb1⟩; have S1 := Lib.hid ((HS.out.same ((Below.refl _ w).alloc (Nat.le_refl _) _)).same hb1); clear hb1)
    | (go_at_call 55; refine (DEC.out _).mono ?_; rintro e w2 ⟨rfl, hb2⟩; have S2 := Lib.hid (S1.out.same hb2); clear hb2 S1)
    | (have T0 := T1.out; clear T0 T1; refine wpList_store_new rfl _ _ rfl f ONE.out _ (by rfl) (by rfl) (by rfl) ?_))
  have S3 := Lib.hid (S2.out.same ((Below.refl _ w2).alloc (Nat.le_refl _) (.cells f.cells 56)))
  have TB := Lib.hid (heap_alloc_new w2 (.cells f.cells 56))
  clear S2 ENC DEC HS
  generalize w2.heap.size = tb at TB ⊢
  generalize w2.alloc _ = V at S3 TB ⊢
  have SX : Hid (∀ (wx : World) (Rx : rea.Rb) (zx : List Int) (Hx : Nat → Option Obj), Ls W wx A F X K (hs ++ [f]) Rx zx ⟨got, en, (now : Int), idle, av, lv⟩ AV LV Hx → wx.heap[tb]? = some (.cells f.cells 56 (0, 0)) →
      wx.cell? ⟨A.lb, 2, none⟩ = some (.pointer (some ⟨A.bi, 0, none⟩)) ∧ wx.cell? ⟨A.lb, 3, none⟩ = some (.pointer (some ⟨A.tb, 0, none⟩)) ∧ wx.cell? ⟨A.lb, 6, none⟩ = some (.int .i64 (now : Int)) ∧ wx.cell? ⟨tb, 2, none⟩ = some (.int .i64 f.off) ∧ wx.cell? ⟨tb, 3, none⟩ = some (.string f.s) ∧ wx.cell? ⟨tb, 4, none⟩ = some (.bool f.fin)) := Lib.hid (fun wx Rx zx Hx hx ht => by
    obtain ⟨q2, q3, q4⟩ := Fr.cell_at ht
    exact ⟨at_whole hx.lk 2 rfl, at_whole hx.lk 3 rfl, at_whole hx.lk 6 rfl, q2, q3, q4⟩)
  have PUT : Hid (∀ (wx : World) (Hx : Nat → Option Obj), Ls W wx A F X K (hs ++ [f]) R zs ⟨got, en, (now : Int), idle, av, lv⟩ AV LV Hx → wx.heap[tb]? = some (.cells f.cells 56 (0, 0)) →
      Calls Tryz.prog 56 #[.pointer (some ⟨A.bi, 0, none⟩), .int .i64 f.off, .string f.s, .bool f.fin] wx fun e w' => e = .returned (.int .i64 0) ∧ ∃ H', Ls W w' A F X K (hs ++ [f]) (R.put off str fin) zs ⟨got, en, (now : Int), idle, av, lv⟩ AV LV H' ∧ w'.heap[tb]? = some (.cells f.cells 56 (0, 0))) := Lib.hid (fun wx Hx hx ht => by
    have hb := hx.rb
    have n1 : tb ≠ A.bi := fun e => by rw [e, hb.ob] at ht; exact cells_ne (by decide) (Option.some.inj ht)
    have n2 : tb ≠ A.g1 := fun e => by rw [e, hb.o1] at ht; exact cells_ne (by decide) (Option.some.inj ht)
    have n3 : tb ≠ A.g2 := fun e => by rw [e, hb.o2] at ht; exact cells_ne (by decide) (Option.some.inj ht)
    have := rea.Put_ok A.bi A.g1 A.g2 R off str fin _ _ _ _ wx hb (EE.out.below hx.wn.below) POK.out
    rw [← HF.out]
    refine this.mono fun e w' hh => ?_
    obtain ⟨H', h'⟩ := hx.turnB hh.2.1 hh.2.2
    rw [HF.out]
    exact ⟨hh.1, H', h', (hh.2.1.block tb (heap_lt ht) n1 n2 n3).trans ht⟩)
  have REC : Hid (∀ (wx : World) (Rx : rea.Rb) (Hx : Nat → Option Obj), Ls W wx A F X K (hs ++ [f]) Rx zs ⟨got, en, (now : Int), idle, av, lv⟩ AV LV Hx → wx.heap[tb]? = some (.cells f.cells 56 (0, 0)) →
      Calls Tryz.prog 57 #[.pointer (some ⟨A.tb, 0, none⟩), .int .i64 (now : Int), .int .i64 hs.length, .bool true] wx fun e w' => e = .returned (.int .i64 0) ∧ ∃ (zs' : List Int) (n' : Nat) (few : Int) (H' : Nat → Option Obj), Ls W w' A F X K (hs ++ [f]) Rx zs' ⟨got, en, (now : Int), idle, av, lv⟩ AV LV H' ∧
        Hid (n' ≤ 16 ∧ few ≤ top ∧ frm.Tg zs' n' ((hs.length : Int) + 1) hs.length now (few + 1) ∧ (∀ i, frm.covB zs' n' i = true → frm.covB zs n i = true ∨ i = (hs.length : Int)) ∧ frm.covB zs' n' (hs.length : Int) = true) ∧ w'.heap[tb]? = some (.cells f.cells 56 (0, 0))) := Lib.hid (fun wx Rx Hx hx ht => by
    have n1 : tb ≠ A.tb := fun e => by rw [e, hx.tk.2] at ht; exact cells_ne (by decide) (Option.some.inj ht)
    obtain ⟨lg, wh, few, t1, t2, t3, t4, t5, t6⟩ := HI.out.tk
    refine (frm.recvG_any A.tb now hs.length wx hx.tk t1 HI.out.n16 (by omega) (by omega) t2 (by omega) (by omega) (by omega) (by omega)).mono fun e w' hh => ?_
    obtain ⟨he, zs', n', r1, r2, r3, r4, r5, r6⟩ := hh
    obtain ⟨H', h'⟩ := hx.turnT r6 r2
    exact ⟨he, zs', n', few, H', h', Lib.hid ⟨r1, t6, r3, r4, r5⟩, (r6.block tb (heap_lt ht) n1 n1).trans ht⟩)
  clear POK EE
  go_region_held3 (fun w' => w'.cell? ⟨A.lb, 2, none⟩ = some (.pointer (some ⟨A.bi, 0, none⟩)) ∧ w'.cell? ⟨A.lb, 3, none⟩ = some (.pointer (some ⟨A.tb, 0, none⟩)) ∧ w'.cell? ⟨A.lb, 6, none⟩ = some (.int .i64 (now : Int)) ∧ w'.cell? ⟨tb, 2, none⟩ = some (.int .i64 f.off) ∧ w'.cell? ⟨tb, 3, none⟩ = some (.string f.s) ∧ w'.cell? ⟨tb, 4, none⟩ = some (.bool f.fin))
    (first | exact SX.out _ _ _ _ G5.out.1 G5.out.2 | exact SX.out _ _ _ _ G4.out.1 G4.out.2 | exact SX.out _ _ _ _ (S3.out.same (Below.refl _ V).drew) TB.out)
    (first
      | (go_at_call 56; refine (PUT.out _ _ (by exact S3.out.same (Below.refl _ V).drew) (by exact TB.out)).mono ?_; rintro e w4 ⟨rfl, H4, h4, ht4⟩; have G4 := Lib.hid (And.intro h4 ht4); clear h4 ht4)
      | (go_at_call 57; refine (REC.out _ _ _ G4.out.1 G4.out.2).mono ?_; rintro e w5 ⟨rfl, zs', n', few, H5, h5, r5, ht5⟩; have G5 := Lib.hid (And.intro h5 ht5); clear h5 ht5))
  have INV : Hid (LInv N lim X K (hs ++ [f]) (rdB (R.put off str fin)) zs' n' (hs.length + 1) now) := Lib.hid (by
    obtain ⟨r1, r2, r3, r4, r5⟩ := r5.out
    have := HI.out
    rw [← HF.out] at this ⊢
    exact this.arrive htop r1 r2 r3 r4)
  have COV := Lib.hid (r5.out.2.2.2.2)
  have GOT : Hid (GotOk N (rdB (R.put off str fin)) (got ++ strOfNums ((R.put off str fin).bs.take (rea.readyF (R.put off str fin).hs))) (en || ((R.put off str fin).kn && decide ((((R.put off str fin).at_ + rea.readyF (R.put off str fin).hs : Nat) : Int) = (R.put off str fin).fin)))) := Lib.hid (HG.out.arrive HI.out.rc hr2.out rfl)
  have hrd := hr2.out.ready
  have hgs : got.size ≤ 1000 := by
    have := HI.out.rc.ats; have := HI.out.rc.sN; have := HI.out.N0
    rw [← bytesOf_length, HG.out.g]
    simp; omega
  have hbl := hr2.out.bl
  have RD : Hid (∀ (wx : World) (Hx : Nat → Option Obj), Ls W wx A F X K (hs ++ [f]) (R.put off str fin) zs' ⟨got, en, (now : Int), idle, av, lv⟩ AV LV Hx →
      Calls Tryz.prog 58 #[.pointer (some ⟨A.bi, 0, none⟩), .int .i64 600] wx fun e w' => e = .returned (.tuple #[.string (strOfNums ((R.put off str fin).bs.take (rea.readyF (R.put off str fin).hs))), .bool ((R.put off str fin).kn && decide ((((R.put off str fin).at_ + rea.readyF (R.put off str fin).hs : Nat) : Int) = (R.put off str fin).fin))]) ∧
        ∃ H', Ls W w' A F X K (hs ++ [f]) (rdB (R.put off str fin)) zs' ⟨got, en, (now : Int), idle, av, lv⟩ AV LV H') := Lib.hid (fun wx Hx hx => by
    have h3 := HI.out.rc.ats; have h4 := HI.out.rc.sN; have h5 := HI.out.N0
    refine (rea.Read_any A.bi A.g1 A.g2 (R.put off str fin) 600 wx hx.rb (by decide) (by show R.at_ ≤ _; omega) (rea.readyF (R.put off str fin).hs) (by omega)).mono fun e w' hh => ?_
    obtain ⟨H', h'⟩ := hx.turnB hh.2.1 hh.2.2
    exact ⟨hh.1, H', h'⟩)
  have hts : (strOfNums ((R.put off str fin).bs.take (rea.readyF (R.put off str fin).hs))).size ≤ 600 := by
    rw [strOfNums_size]; simp; omega
  have hadd : (9223372036854775807 < got.size + (strOfNums ((R.put off str fin).bs.take (rea.readyF (R.put off str fin).hs))).size) = False := eq_false (by omega)
  clear r5 HI HG hr2 hrd hbl SX PUT REC G4 S3 TB SFO ONE
  obtain ⟨c2, c3, c6⟩ : w5.cell? ⟨A.lb, 2, none⟩ = some (.pointer (some ⟨A.bi, 0, none⟩)) ∧ w5.cell? ⟨A.lb, 4, none⟩ = some (.string got) ∧ w5.cell? ⟨A.lb, 5, none⟩ = some (.bool en) := ⟨at_whole G5.out.1.lk 2 rfl, at_whole G5.out.1.lk 4 rfl, at_whole G5.out.1.lk 5 rfl⟩
  generalize strOfNums _ = tx at *
  generalize hex : (Bool.and _ _ : Bool) = ex at *
  clear hex
  go_upto_region 6 with (go_at_call 58; refine (RD.out _ _ G5.out.1).mono ?_; rintro e w6 ⟨rfl, H6, h6⟩; have G6 := Lib.hid h6; clear h6)
  clear RD G5 c2 c3 c6
  have c4 : w6.cell? ⟨A.lb, 4, none⟩ = some (.string got) := at_whole G6.out.lk 4 rfl
  have z4 := frozen_whole G6.out.lk 4
  go_upto_region 7 with (fail)
  have G7 := Lib.hid (G6.out.setL (L' := ⟨got ++ tx, en, (now : Int), idle, av, lv⟩) 4 (.string (got ++ tx)) rfl G6.out.ra G6.out.rl G6.out.rd)
  clear G6 c4 z4
  generalize World.setCell w6 _ _ = w7 at G7 ⊢
  generalize upd H6 A.lb _ = H7 at G7
  have c5 : w7.cell? ⟨A.lb, 5, none⟩ = some (.bool en) := at_whole G7.out.lk 5 rfl
  have z5 := frozen_whole G7.out.lk 5
  have FIN : Hid (∀ b : Bool, b = (en || ex) → ∃ zs' n' got' en' H', ArrPost W (w7.setCell ⟨A.lb, 5, none⟩ (.bool b)) N lim A X K (hs ++ [f]) (hs.length + 1) now ⟨got, en, (now : Int), idle, av, lv⟩ AV LV F (rdB (R.put off str fin)) zs' n' got' en' H') := Lib.hid (fun b hb =>
    ⟨_, _, _, _, _, G7.out.setL (L' := ⟨got ++ tx, b, (now : Int), idle, av, lv⟩) 5 (.bool b) rfl G7.out.ra G7.out.rl G7.out.rd, INV.out, by rw [show (((hs.length + 1 : Nat) : Int) - 1) = (hs.length : Int) by omega]; exact COV.out, by rw [hb]; exact GOT.out⟩)
  clear INV COV GOT G7
  cases en
  · go_wp2
    go_ret
    exact ⟨rfl, FIN.out _ rfl⟩
  · go_wp2
    go_ret
    exact ⟨rfl, FIN.out _ rfl⟩
end Go.Proofs.YtpfkeohaaeiaaaaGreatDoor
