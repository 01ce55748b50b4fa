/- Texts Lmk Lod Loe Lof Lmm of this claim, one behind the other. -/
import Derived.Test.YtpfkeohaaeiaaaaGreatDoorRc31
import Derived.Test.YtpfkeohaaeiaaaaGreatDoorRc12
/- SendBufReliable: step. -/
namespace Go.Proofs.YtpfkeohaaeiaaaaGreatDoor
open Go.RowKit
set_option maxRecDepth 100000
theorem one_nextR (X : Wh) (p : Option (Nat × Nat)) : (X.nextR p).cells.all (·.oneCell') = true := by
  cases p with
  | none => simp [Wh.nextR, fr0, mkFr, Fr.cells, Value.oneCell']
  | some p => simp [Wh.nextR, Wh.frameR, mkFr, Fr.cells, Value.oneCell']
/-- the receive buffer behind a step -/
def nextRb (X : Wh) (R : rea.Rb) (p : Option (Nat × Nat)) (fate : Int) : rea.Rb := match p with
  | none => R
  | some (a, t) => if fate % 2 = 0 then rdB (R.put a (X.frameR a t).s (X.frameR a t).fin) else R
/-- the state between the sending and the reply -/
structure MidS (W w' : World) (N lim : Nat) (A : Lad) (F1 : Nat → Prop) (X1 : Wh) (K1 : frm.Rc) (hs1 : List Fr) (R1 : rea.Rb) (zs1 : List Int) (n1 top1 nw idle1 : Nat) (L1 : Lnk) (H1 : Nat → Option Obj) : Prop where
  ls : Ls W w' A F1 X1 K1 hs1 R1 zs1 L1 [] [] H1
  inv : LInv N lim X1 K1 hs1 R1 zs1 n1 top1 nw
  got : GotOk N R1 L1.got L1.en
  now : L1.now = (nw : Int)
  idle : L1.idle = (idle1 : Int)
def Lnk.idl (L : Lnk) (i : Nat) : Lnk := { L with idle := i }
structure StpPost (W w' : World) (N lim : Nat) (A : Lad) (X : Wh) (K : frm.Rc) (hs : List Fr) (R : rea.Rb) (nw idle : Nat) (p : Option (Nat × Nat)) (fate : Int) (F' : Nat → Prop) (X' : Wh) (K' : frm.Rc) (hs' : List Fr) (R' : rea.Rb) (zs' : List Int) (n' top' idle' : Nat) (L' : Lnk) (AV' LV' : List frm.Pk) (H' : Nat → Option Obj) : Prop where
  ls : Ls W w' A F' X' K' hs' R' zs' L' AV' LV' H'
  inv : LInv N lim X' K' hs' R' zs' n' top' nw
  got : GotOk N R' L'.got L'.en
  now : L'.now = (nw : Int)
  idl : L'.idle = (idle' : Int)
  rb : R' = nextRb X R p fate
  sf : ∀ z : Bool, (z = true → fate % 2 = 0 ∧ fate / 2 % 2 = 0) → StF z X X' K K' p nw idle idle'
  pk : ∃ X1 K1 idle1 a e e2, SndF X X1 K K1 hs hs' p nw idle idle1 ∧ Pk3 K1.l AV' LV' K'.l a e e2 ∧ K'.nx = K1.nx
set_option maxHeartbeats 16000000 in
theorem step_any {W w : World} {N lim : Nat} {A : Lad} {F : Nat → Prop} {X : Wh} {K : frm.Rc} {hs : List Fr} {R : rea.Rb} {zs : List Int} {n top now idle : Nat} {L : Lnk} {AV LV : List frm.Pk} {H : Nat → Option Obj} {y0 y1 y2 y3 : Addr}
    (h : Ls W w A F X K hs R zs L AV LV H) (hI : LInv N lim X K hs R zs n top now) (hnow : L.now = (now : Int)) (hidle : L.idle = (idle : Int)) (hid : idle ≤ 10) (h1 : now ≤ 5000) (hlen : hs.length ≤ 5000) (hE : rea.Errs W y0 y1 y2 y3) (hG : GotOk N R L.got L.en)
    (size fate : Int) (hs0 : 0 ≤ size) (hs1 : size ≤ 100) (hf0 : 0 ≤ fate) (hf1 : fate ≤ 3) :
    Calls Tryz.prog 12 #[.pointer (some ⟨A.lb, 0, none⟩), .int .i64 size, .int .i64 fate] w fun e w' => e = .returned (.bool true) ∧ ∃ F' X' K' hs' R' zs' n' top' idle' L' AV' LV' H', StpPost W w' N lim A X K hs R (now + 1) idle (X.nextP size 1000) fate F' X' K' hs' R' zs' n' top' idle' L' AV' LV' H' := by
  obtain ⟨nw, hnw⟩ : ∃ nw, now + 1 = nw := ⟨_, rfl⟩
  obtain ⟨p, hp⟩ : ∃ p, X.nextP size 1000 = p := ⟨_, rfl⟩
  rw [hnw, hp]
  have hw1 : IntKind.i64.wrap ((now : Int) + 1) = (nw : Int) := by rw [IntWalk.i64_in _ (by omega)]; omega
  obtain ⟨got, en, nw0, id0, av, lv⟩ := L
  simp only at hnow hidle hG
  subst hnow hidle
  have HI := Lib.hid (hI.tick (now' := nw) (by omega))
  have HG := Lib.hid hG
  have EE := Lib.hid hE
  have HS := Lib.hid h
  have c6 : w.cell? ⟨A.lb, 6, none⟩ = some (.int .i64 (now : Int)) := at_whole h.lk 6 rfl
  have z6 := frozen_whole h.lk 6
  clear h hI hG hE
  go_enter Tryz.func12, Tryz.ntmps12
  go_upto_region 2 with (fail)
  have S1 := Lib.hid (HS.out.setL (L' := ⟨got, en, (nw : Int), (idle : Int), av, lv⟩) 6 (.int .i64 (nw : Int)) rfl HS.out.ra HS.out.rl HS.out.rd)
  clear HS c6 z6
  generalize World.setCell w _ _ = w1 at S1 ⊢
  generalize upd H A.lb _ = H1 at S1
  have c8 := at_whole S1.out.lk 8 rfl
  have z8 := frozen_whole S1.out.lk 8
  simp only [Lnk.cs, Lnk.cells, List.getElem_toArray, List.getElem_cons_zero, List.getElem_cons_succ] at c8
  go_upto_region 3 with (fail)
  have S2 := Lib.hid (S1.out.setL (L' := ⟨got, en, (nw : Int), (idle : Int), .slice none 0 0, lv⟩) (AV' := []) 8 (.slice none 0 0) rfl (.inl ⟨rfl, rfl⟩) S1.out.rl (fun k hk => by cases hk))
  clear S1 c8 z8
  generalize World.setCell w1 _ _ = w2 at S2 ⊢
  generalize upd H1 A.lb _ = H2 at S2
  have c9 := at_whole S2.out.lk 9 rfl
  have z9 := frozen_whole S2.out.lk 9
  simp only [Lnk.cs, Lnk.cells, List.getElem_toArray, List.getElem_cons_zero, List.getElem_cons_succ] at c9
  go_upto_region 4 with (fail)
  have S3 := Lib.hid (S2.out.setL (L' := ⟨got, en, (nw : Int), (idle : Int), .slice none 0 0, .slice none 0 0⟩) (LV' := []) 9 (.slice none 0 0) rfl S2.out.ra (.inl ⟨rfl, rfl⟩) (fun k hk => by cases hk))
  clear S2 c9 z9
  generalize World.setCell w2 _ _ = w3 at S3 ⊢
  generalize upd H2 A.lb _ = H3 at S3
  have c0 : w3.cell? ⟨A.lb, 0, none⟩ = some (.pointer (some ⟨A.b, 0, none⟩)) := at_whole S3.out.lk 0 rfl
  have NX : Hid (∀ wx, Ls W wx A F X K hs R zs ⟨got, en, (nw : Int), (idle : Int), .slice none 0 0, .slice none 0 0⟩ [] [] H3 → Calls Tryz.prog 24 #[.pointer (some ⟨A.b, 0, none⟩), .int .i64 size, .int .i64 1000] wx fun e w' => e = .returned (.tuple #[.agg (X.nextR p).cells, .bool p.isSome]) ∧ ∃ F', Ls W w' A F' (X.nextX p) K hs R zs ⟨got, en, (nw : Int), (idle : Int), .slice none 0 0, .slice none 0 0⟩ [] [] H3) := Lib.hid (fun wx hx => by
    have := wn_next hx.wn size 1000
    rw [hp] at this
    exact this.mono fun e w' hh => ⟨hh.1, hh.2.choose, hx.buf hh.2.choose_spec⟩)
  have ONE := Lib.hid (one_nextR X p)
  generalize hf : X.nextR p = f at *
  generalize hsm : p.isSome = is at *
  go_upto_region 5 with (first
    | (go_at_call 24; refine (NX.out _ S3.out).mono ?_; rintro e w4 ⟨rfl, F4, h4⟩; have S4 := Lib.hid h4; clear h4)
    | (refine wpList_store_new rfl _ _ rfl f ONE.out _ (by rfl) (by rfl) (by rfl) ?_))
  have S5 := Lib.hid (S4.out.same ((Below.refl _ w4).alloc (Nat.le_refl _) (.cells f.cells 56)))
  have TB := Lib.hid (heap_alloc_new w4 (.cells f.cells 56))
  clear S4 NX S3 c0
  generalize w4.heap.size = tb at TB ⊢
  generalize w4.alloc _ = w5 at S5 TB ⊢
  go_upto_if 32 with (fail)
  go_cut [9] from 33 to 67 (fun pnv w' => Hid (∃ F1 X1 K1 hs1 R1 zs1 n1 top1 idle1 L1 H1, MidS W w' N lim A F1 X1 K1 hs1 R1 zs1 n1 top1 nw idle1 L1 H1 ∧ R1 = nextRb X R p fate ∧ SndF X X1 K K1 hs hs1 p nw idle idle1 ∧ (fate % 2 = 0 → p.isSome = true → frm.covB zs1 n1 K.nx = true)))
  case first =>
    cases p with
    | none =>
      subst hsm
      go_wp2
      go_meet
      exact Lib.hid ⟨F4, X, K, hs, R, zs, n, top, idle, ⟨got, en, (nw : Int), (idle : Int), .slice none 0 0, .slice none 0 0⟩, H3, ⟨S5.out, HI.out, HG.out, rfl, rfl⟩, rfl, ⟨fun _ => ⟨rfl, rfl, rfl, rfl⟩, fun a t h => by cases h⟩, fun _ h => by cases h⟩
    | some pc =>
      subst hsm
      obtain ⟨a, t⟩ := pc
      have c1 : w5.cell? ⟨A.lb, 1, none⟩ = some (.pointer (some ⟨A.rb, 0, none⟩)) := at_whole S5.out.lk 1 rfl
      have c7 := at_whole S5.out.lk 7 rfl
      have z7 := frozen_whole S5.out.lk 7
      simp only [Lnk.cs, Lnk.cells, List.getElem_toArray, List.getElem_cons_zero, List.getElem_cons_succ] at c7
      have RN := Lib.hid (frm.next_any S5.out.rcA)
      go_upto_region 8 with (go_at_call 14; refine RN.out.mono ?_; rintro e w6 ⟨rfl, rfl⟩)
      have S6 := Lib.hid (S5.out.setL (L' := ⟨got, en, (nw : Int), 0, .slice none 0 0, .slice none 0 0⟩) 7 (.int .i64 0) rfl S5.out.ra S5.out.rl S5.out.rd)
      have TB6 : Hid ((w5.setCell ⟨A.lb, 7, none⟩ (.int .i64 0)).heap[tb]? = some (.cells f.cells 56 (0, 0))) := Lib.hid ((heap_setCell_other w5 _ tb _ (fun e => by
        have := TB.out
        rw [e, S5.out.lk] at this; exact cells_ne (by decide) (Option.some.inj this))).trans TB.out)
      clear S5 TB c1 c7 z7 RN
      generalize World.setCell w5 _ _ = w6 at S6 TB6 ⊢
      generalize upd H3 A.lb _ = H6 at S6
      obtain ⟨str, fin, hfe, hsz, hsz2, hem, hft, hok⟩ := HI.out.next hp hs0 hs1
      have hfm : f = mkFr 8 a str fin := by rw [← hf]; exact hfe
      have hrg : f.ranges = .slice none 0 0 := by rw [hfm]; rfl
      have HFM := Lib.hid hfm
      have HX : Hid (∀ w' : World, w'.heap[A.lb]? = w6.heap[A.lb]? → w'.heap[tb]? = w6.heap[tb]? → w'.cell? ⟨A.lb, 1, none⟩ = some (.pointer (some ⟨A.rb, 0, none⟩)) ∧ w'.cell? ⟨A.lb, 6, none⟩ = some (.int .i64 (nw : Int)) ∧ w'.cell? ⟨tb, 0, none⟩ = some (.int .i64 f.ty) ∧ w'.cell? ⟨tb, 1, none⟩ = some (.int .i64 f.str) ∧ w'.cell? ⟨tb, 2, none⟩ = some (.int .i64 f.off) ∧ w'.cell? ⟨tb, 3, none⟩ = some (.string f.s) ∧ w'.cell? ⟨tb, 4, none⟩ = some (.bool f.fin) ∧ w'.cell? ⟨tb, 5, none⟩ = some (.int .i64 f.max) ∧ w'.cell? ⟨tb, 6, none⟩ = some (.int .i64 f.code) ∧ w'.cell? ⟨tb, 7, none⟩ = some (.bool f.uni) ∧ w'.cell? ⟨tb, 8, none⟩ = some (.int .i64 f.delay) ∧ w'.cell? ⟨tb, 9, none⟩ = some (.slice none 0 0) ∧ w'.cell? ⟨tb, 10, none⟩ = some (.int .i64 f.seq) ∧ w'.cell? ⟨tb, 11, none⟩ = some (.int .i64 f.retire) ∧ w'.cell? ⟨tb, 12, none⟩ = some (.string f.cid)) := Lib.hid (fun w' e1 e2 => by
        have k1 := e1.trans S6.out.lk
        have k2 := e2.trans TB6.out
        refine ⟨at_whole k1 1 rfl, at_whole k1 6 rfl, at_whole k2 0 rfl, at_whole k2 1 rfl, at_whole k2 2 rfl, at_whole k2 3 rfl, at_whole k2 4 rfl, at_whole k2 5 rfl, at_whole k2 6 rfl, at_whole k2 7 rfl, at_whole k2 8 rfl, ?_, at_whole k2 10 rfl, at_whole k2 11 rfl, at_whole k2 12 rfl⟩
        rw [← hrg]; exact at_whole k2 9 rfl)
      have SENT : Hid (∀ (wx : World) (s : Nat), Below w6.heap.size w6 wx → wx.heap[s]? = some (.cells f.cells 56 (0, 0)) →
          Calls Tryz.prog 31 #[.pointer (some ⟨A.rb, 0, none⟩), .agg #[.int .i64 K.nx, .int .i64 (nw : Int), .int .i64 (f.s.size : Int), .bool true, .slice (some ⟨s, 0, none⟩) 1 1]] wx fun e w' => e = .returned (.int .i64 0) ∧ ∃ fv H', Hid (∃ g c, fv = .slice (some ⟨g, 0, none⟩) 1 c) ∧
            Ls W w' A F4 (X.nextX (some (a, t))) (K.add ⟨K.nx, (nw : Int), (f.s.size : Int), true, fv⟩) (hs ++ [f]) R zs ⟨got, en, (nw : Int), 0, .slice none 0 0, .slice none 0 0⟩ [] [] H' ∧ w'.heap[A.lb]? = w6.heap[A.lb]? ∧ w'.heap[tb]? = w6.heap[tb]?) := Lib.hid (fun wx s hb hsx => by
        have hx := S6.out.same hb
        have hlb := hx.lk
        have htb := heap_below hb TB6.out
        have hrb := hx.wn.at hx.hr
        obtain ⟨mo, m1, m2, _⟩ := hx.hm
        have hmo := hx.wn.at m1
        have h0 := HI.out.ko.n0
        refine (frm.sent_one hx.rcA HI.out.ko ⟨K.nx, (nw : Int), (f.s.size : Int), true, .slice (some ⟨s, 0, none⟩) 1 1⟩ f ⟨s, 1, rfl, Nat.le_refl _, fun j u hu => by simp only [World.cell?, hsx]; simpa using hu⟩ ONE.out hrg rfl (by show (0 : Int) ≤ (nw : Int); omega) (by show (0 : Int) ≤ (f.s.size : Int); omega)).mono fun e w' hh => ?_
        obtain ⟨fv, he, q1, _, ⟨g, c, cur, v1, v2, v3, v4, v5⟩, q4⟩ := hh
        obtain ⟨H', h', _⟩ := hx.sent HI.out.ko HI.out.nx (p := ⟨K.nx, (nw : Int), (f.s.size : Int), true, fv⟩) rfl q1 q4 (f := f) v1 v2 v3 v4 v5
        refine ⟨he, fv, H', Lib.hid ⟨g, c, v1⟩, h', ?_, ?_⟩
        · exact (q4.block A.lb (heap_lt hlb) (fun e => by rw [e, hrb] at hlb; exact cells_ne (by decide) (Option.some.inj hlb)) (fun e => by rw [e, hmo] at hlb; exact isC_ne m2 _ _ _ (Option.some.inj hlb))).trans (hb.block _ (heap_lt S6.out.lk))
        · exact (q4.block tb (heap_lt htb) (fun e => by rw [e, hrb] at htb; exact cells_ne (by decide) (Option.some.inj htb)) (fun e => by rw [e, hmo] at htb; exact isC_ne m2 _ _ _ (Option.some.inj htb))).trans (hb.block _ (heap_lt TB6.out)))
      have AL : Hid (∀ wx : World, (wx.alloc (.cells #[.int .i64 f.ty, .int .i64 f.str, .int .i64 f.off, .string f.s, .bool f.fin, .int .i64 f.max, .int .i64 f.code, .bool f.uni, .int .i64 f.delay, .slice none 0 0, .int .i64 f.seq, .int .i64 f.retire, .string f.cid] 56)).heap[wx.heap.size]? = some (.cells f.cells 56 (0, 0))) := Lib.hid (fun wx => by
        have e : (#[.int .i64 f.ty, .int .i64 f.str, .int .i64 f.off, .string f.s, .bool f.fin, .int .i64 f.max, .int .i64 f.code, .bool f.uni, .int .i64 f.delay, .slice none 0 0, .int .i64 f.seq, .int .i64 f.retire, .string f.cid] : Array Value) = f.cells := by rw [← hrg]; rfl
        rw [e]; exact heap_alloc_new _ _)
      have FSZ := Lib.hid (show f.s = str ∧ f.s.size = t - a from by rw [hfm]; exact ⟨rfl, hsz⟩)
      clear hfe hft hok hfm hrg hsz hsz2 hem
      go_region_held3 (fun w' => w'.cell? ⟨A.lb, 1, none⟩ = some (.pointer (some ⟨A.rb, 0, none⟩)) ∧ w'.cell? ⟨A.lb, 6, none⟩ = some (.int .i64 (nw : Int)) ∧ w'.cell? ⟨tb, 0, none⟩ = some (.int .i64 f.ty) ∧ w'.cell? ⟨tb, 1, none⟩ = some (.int .i64 f.str) ∧ w'.cell? ⟨tb, 2, none⟩ = some (.int .i64 f.off) ∧ w'.cell? ⟨tb, 3, none⟩ = some (.string f.s) ∧ w'.cell? ⟨tb, 4, none⟩ = some (.bool f.fin) ∧ w'.cell? ⟨tb, 5, none⟩ = some (.int .i64 f.max) ∧ w'.cell? ⟨tb, 6, none⟩ = some (.int .i64 f.code) ∧ w'.cell? ⟨tb, 7, none⟩ = some (.bool f.uni) ∧ w'.cell? ⟨tb, 8, none⟩ = some (.int .i64 f.delay) ∧ w'.cell? ⟨tb, 9, none⟩ = some (.slice none 0 0) ∧ w'.cell? ⟨tb, 10, none⟩ = some (.int .i64 f.seq) ∧ w'.cell? ⟨tb, 11, none⟩ = some (.int .i64 f.retire) ∧ w'.cell? ⟨tb, 12, none⟩ = some (.string f.cid))
        (first | exact HX.out _ G7.out.2.1 G7.out.2.2 | exact HX.out _ (Below.heap_alloc _ _ _ (heap_lt S6.out.lk)) (Below.heap_alloc _ _ _ (heap_lt TB6.out)) | exact HX.out _ rfl rfl)
        (first | (go_at_call 31; refine (SENT.out _ _ (by first | exact ((Below.refl _ w6).alloc (Nat.le_refl _) _).drew | exact (Below.refl _ w6).drew.alloc (Nat.le_refl _) _) (by exact AL.out w6)).mono ?_; rintro e w7 ⟨rfl, fv, H7, hfv, h7, k7⟩; have G7 := Lib.hid (And.intro h7 k7); clear h7 k7))
      have HNX := Lib.hid HI.out.nx
      have hnx5 : K.nx < 10000 := by have := HNX.out; omega
      have INV : Hid (LInv N lim (X.nextX (some (a, t))) (K.add ⟨K.nx, (nw : Int), (f.s.size : Int), true, fv⟩) (hs ++ [f]) R zs n top nw) := Lib.hid (by
        obtain ⟨g, c, hv⟩ := hfv.out
        have := HI.out.send hp hs0 hs1 (fv := fv) ⟨_, _, _, hv⟩ hnx5 (by omega)
        rw [show X.frameR a t = f from hf] at this
        exact this)
      have G8 := Lib.hid G7.out.1
      have TB8 := Lib.hid (G7.out.2.2.trans TB6.out)
      clear HX SENT AL S6 TB6 G7
      by_cases e0 : fate % 2 = 0
      · have ARR : Hid (∀ wx Hx, Ls W wx A F4 (X.nextX (some (a, t))) (K.add ⟨K.nx, (nw : Int), (f.s.size : Int), true, fv⟩) (hs ++ [f]) R zs ⟨got, en, (nw : Int), 0, .slice none 0 0, .slice none 0 0⟩ [] [] Hx →
            Calls Tryz.prog 32 #[.pointer (some ⟨A.lb, 0, none⟩), .agg #[.int .i64 f.ty, .int .i64 f.str, .int .i64 f.off, .string f.s, .bool f.fin, .int .i64 f.max, .int .i64 f.code, .bool f.uni, .int .i64 f.delay, .slice none 0 0, .int .i64 f.seq, .int .i64 f.retire, .string f.cid], .int .i64 K.nx] wx fun e w' => e = .returned (.bool true) ∧ ∃ R' zs' n' got' en' H', R' = nextRb X R (some (a, t)) fate ∧ ArrPost W w' N lim A (X.nextX (some (a, t))) (K.add ⟨K.nx, (nw : Int), (f.s.size : Int), true, fv⟩) (hs ++ [f]) (hs.length + 1) nw ⟨got, en, (nw : Int), 0, .slice none 0 0, .slice none 0 0⟩ [] [] F4 R' zs' n' got' en' H') := Lib.hid (fun wx Hx hx => by
          have hi := INV.out
          have e0' := e0
          have e0 : (#[.int .i64 f.ty, .int .i64 f.str, .int .i64 f.off, .string f.s, .bool f.fin, .int .i64 f.max, .int .i64 f.code, .bool f.uni, .int .i64 f.delay, .slice none 0 0, .int .i64 f.seq, .int .i64 f.retire, .string f.cid] : Array Value) = f.cells := by rw [HFM.out]; rfl
          rw [e0]
          rw [HFM.out] at hx hi ⊢
          have := arrive_any hx hi HI.out.tp rfl (by omega) (by omega) EE.out HG.out
          have e1 := HNX.out
          rw [← e1] at this
          refine this.mono fun e w' hh => ?_
          obtain ⟨he, zs', n', got', en', H', ap⟩ := hh
          refine ⟨he, rdB (R.put a str fin), zs', n', got', en', H', ?_, ap⟩
          unfold nextRb
          simp only []
          rw [if_pos e0', show X.frameR a t = mkFr 8 a str fin from hf.trans HFM.out]; rfl)
        go_wp2_with (first
          | (go_at_call 32; refine (ARR.out _ _ G8.out).mono ?_; rintro e w8 ⟨rfl, R', zs', n', got', en', H8, hr8, h8⟩; have A8 := Lib.hid h8; have HR8 := Lib.hid hr8; clear h8 hr8))
        go_meet
        refine Lib.hid ⟨F4, _, _, _, R', zs', n', hs.length + 1, 0, _, H8, ⟨A8.out.ls, A8.out.inv, A8.out.got, rfl, rfl⟩, HR8.out, ⟨fun h => (by cases h), fun a' t' h => ?_⟩, fun _ _ => ?_⟩
        · cases h
          exact ⟨rfl, ⟨fv, by rw [show X.frameR a t = f from hf]⟩, by rw [show X.frameR a t = f from hf], rfl⟩
        · have := A8.out.cov
          rw [show (((hs.length + 1 : Nat) : Int) - 1) = K.nx by have := HNX.out; omega] at this
          exact this
      · go_wp2_with fail
        go_meet
        refine Lib.hid ⟨F4, _, _, _, R, zs, n, top, 0, _, H7, ⟨G8.out, INV.out, HG.out, rfl, rfl⟩, by unfold nextRb; simp only []; rw [if_neg e0], ⟨fun h => (by cases h), fun a' t' h => ?_⟩, fun h => absurd h e0⟩
        cases h
        exact ⟨rfl, ⟨fv, by rw [show X.frameR a t = f from hf]⟩, by rw [show X.frameR a t = f from hf], rfl⟩
  case rest =>
    obtain ⟨F1, X1, K1, hs1', R1, zs1, n1, top1, idle1, L1, H1', M, RB, SN, AR⟩ := hcut.out
    have MM := Lib.hid M
    have KK := Lib.hid (And.intro SN AR)
    have RBB := Lib.hid RB
    have hnw1 := M.now
    have hid1 := M.idle
    have hi1 : idle1 ≤ 10 := by
      rcases p with _ | ⟨a, t⟩
      · rw [(SN.none rfl).2.2.2]; exact hid
      · rw [(SN.some a t rfl).2.2.2]; decide
    clear hcut M RB SN AR S5 TB HG ONE
    go_upto_region 12 with (fail)
    have RPL : Hid (∀ wx Hx, Ls W wx A F1 X1 K1 hs1' R1 zs1 L1 [] [] Hx → Calls Tryz.prog 33 #[.pointer (some ⟨A.lb, 0, none⟩)] wx fun ex w' => ex = .returned (.bool true) ∧ ∃ F' X' K' la ll a e av lv H', SetPost W w' N lim A hs1' R1 zs1 n1 top1 nw L1 [] [] X1 K1 F' X' K' la ll a e av lv H' ∧ RpF K1 K' zs1 n1 la) := Lib.hid (fun wx Hx hx =>
      reply_any hx MM.out.inv hnw1 (by omega) (by
        rcases p with _ | ⟨a, t⟩
        · rw [(KK.out.1.none rfl).2.2.1]; omega
        · rw [(KK.out.1.some a t rfl).2.2.1, List.length_append, List.length_singleton]; omega) (by simp) (by simp))
    go_cut [76] from 68 to 77 (fun s w' => s = .bool false ∧ Hid (∃ F' X' K' la ll a e av lv H', SetPost W w' N lim A hs1' R1 zs1 n1 top1 nw L1 [] [] X1 K1 F' X' K' la ll a e av lv H' ∧ (fate / 2 % 2 = 0 → RpF K1 K' zs1 n1 la)))
    case first =>
      by_cases e1 : fate / 2 % 2 = 0
      · go_wp2_with (go_at_call 33; refine (RPL.out _ _ MM.out.ls).mono ?_; rintro e w8 ⟨rfl, F', X', K', la, ll, a, e, av, lv, H', q1, q2⟩; have Q := Lib.hid (And.intro q1 q2); clear q1 q2)
        go_meet
        exact ⟨rfl, Lib.hid ⟨F', X', K', la, ll, a, e, av, lv, H', Q.out.1, fun _ => Q.out.2⟩⟩
      · go_wp2_with fail
        go_meet
        refine ⟨rfl, Lib.hid ⟨F1, X1, K1, [], [], fun _ => false, fun _ => false, L1.av, L1.lv, H1', ⟨MM.out.ls, MM.out.inv, Stl.start _ MM.out.inv.ok, ⟨by simp, by simp, by simp [frm.filter_true]⟩, rfl, Int.le_refl _⟩, fun h => absurd h e1⟩⟩
    case rest =>
      obtain ⟨rfl, HC⟩ := hcut
      obtain ⟨F2, X2, K2, la, ll, a, e, av2, lv2, H2', Q1, Q2⟩ := HC.out
      have S2 := Lib.hid (show Ls W wc A F2 X2 K2 hs1' R1 zs1 (L1.rows av2 lv2) la ll H2' from Q1.ls)
      have I2 := Lib.hid Q1.inv
      have P1 := Lib.hid (And.intro Q1.rep Q2)
      clear HC Q1 Q2 RPL
      obtain ⟨id2, hid2⟩ : ∃ id2, idle1 + 1 = id2 := ⟨_, rfl⟩
      have hw2 : IntKind.i64.wrap ((idle1 : Int) + 1) = (id2 : Int) := by rw [IntWalk.i64_in _ (by omega)]; omega
      have c7 : wc.cell? ⟨A.lb, 7, none⟩ = some (.int .i64 (idle1 : Int)) := by
        have : wc.cell? ⟨A.lb, 7, none⟩ = some (.int .i64 L1.idle) := at_whole S2.out.lk 7 rfl
        rw [hid1] at this; exact this
      have z7 := frozen_whole S2.out.lk 7
      have HID2 := Lib.hid hid2
      have HNW := Lib.hid (And.intro hnw1 (And.intro hid1 hp))
      clear hid2 hnw1 hid1 hp
      go_upto_region 15 with (fail)
      have S3 := Lib.hid (S2.out.setL (L' := (L1.rows av2 lv2).idl id2) 7 (.int .i64 (id2 : Int)) rfl S2.out.ra S2.out.rl S2.out.rd)
      clear S2 c7 z7
      generalize World.setCell wc _ _ = w9 at S3 ⊢
      generalize upd H2' A.lb _ = H9 at S3
      have LOSE : Hid (∀ (i0 : Nat) (w0 wx : World) (Hx : Nat → Option Obj) (fx : frm.Pk → Bool) (v : Value), Ls W w0 A F2 X2 K2 hs1' R1 zs1 ((L1.rows av2 lv2).idl i0) la ll Hx → EndF K2 (K2.cut fx) fx nw idle1 i0 → frm.RemPost A.rb A.M K2 fx w0 (.returned v) wx →
          Calls Tryz.prog 34 #[.pointer (some ⟨A.lb, 0, none⟩), .slice none 0 0, v] wx fun ex w' => ex = .returned (.bool true) ∧ ∃ F' X' K' hs' R' zs' n' top' idle' L' AV' LV' H', StpPost W w' N lim A X K hs R nw idle p fate F' X' K' hs' R' zs' n' top' idle' L' AV' LV' H') := Lib.hid (fun i0 w0 wx Hx fx v hx hE ⟨v', hv, q1, q2, q3⟩ => by
        cases hv
        have hK2l : K2.l.length ≤ 10000 := by have := I2.out.ko.len; have := I2.out.ko.n1; omega
        have hK1l : K1.l.length ≤ 10000 := by have := MM.out.inv.ko.len; have := MM.out.inv.ko.n1; omega
        have hlal : la.length ≤ 10000 := by rw [P1.out.1.pt.la]; exact Nat.le_trans (List.length_filter_le _ _) hK1l
        have hlll : ll.length ≤ 10000 := by rw [P1.out.1.pt.ll]; exact Nat.le_trans (List.length_filter_le _ _) (Nat.le_trans (List.length_filter_le _ _) hK1l)
        have hl2 : (K2.l.filter fx).length ≤ 10000 := Nat.le_trans (List.length_filter_le _ _) hK2l
        refine (settle_ls (va := .slice none 0 0) (la := []) (a := fun _ => false) (e := fx) hx I2.out q2 q3 ⟨by simp, by simp [frm.filter_true], by simp [frm.filter_true, frm.Rc.cut]⟩ (I2.out.ko.cut fx) rfl (Int.le_refl _) (fun p hp => by cases hp) (World.ownsRow_nil _ _ _ _) (fun _ => rfl) q1.1 q1.2.1 (by simp; omega) (by omega)).mono fun ex w' hh => ?_
        obtain ⟨he, F', X', av, lv, H', sp⟩ := hh
        refine ⟨he, F', X', K2.cut fx, hs1', R1, zs1, n1, top1, i0, ((L1.rows av2 lv2).idl i0).rows av lv, la, ll ++ K2.l.filter fx, H', by have := sp.ls; rw [List.append_nil] at this; exact this, sp.inv, MM.out.got, HNW.out.1, rfl, RBB.out, fun z hz => stF_of HI.out HNW.out.2.2 hs0 hs1 KK.out.1 MM.out.inv KK.out.2 P1.out.1 P1.out.2 sp.rep hE hz, X1, K1, idle1, a, e, fx, KK.out.1, Pk3.of P1.out.1.pt sp.rep.pt, P1.out.1.nx⟩)
      have hrs := HID2.out
      have c7 : w9.cell? ⟨A.lb, 7, none⟩ = some (.int .i64 (id2 : Int)) := at_whole S3.out.lk 7 rfl
      have z7 := frozen_whole S3.out.lk 7
      by_cases hgt : 10 < id2
      · have d1 : decide ((10 : Int) < (id2 : Int)) = true := decide_eq_true (by omega)
        go_upto_region 17 with (fail)
        have S4 := Lib.hid (S3.out.setL (L' := (L1.rows av2 lv2).idl 0) 7 (.int .i64 0) rfl S3.out.ra S3.out.rl S3.out.rd)
        clear S3 c7 z7
        generalize World.setCell w9 _ _ = w10 at S4 ⊢
        generalize upd H9 A.lb _ = H10 at S4
        have c1 : w10.cell? ⟨A.lb, 1, none⟩ = some (.pointer (some ⟨A.rb, 0, none⟩)) := at_whole S4.out.lk 1 rfl
        have DSC := Lib.hid (fun (wx : World) (hx : frm.RecAt wx A.rb A.M K2) => frm.discard_any hx I2.out.ko)
        have EF : Hid (EndF K2 (K2.cut fun _ => true) (fun _ => true) nw idle1 0) := Lib.hid ⟨rfl, .inr ⟨by omega, rfl, rfl⟩⟩
        go_wp2_with (first
          | (go_at_call 35; refine (DSC.out _ (by exact S4.out.rcA)).mono ?_; rintro e w11 ⟨v, rfl, q1, q2, q3⟩; have Q := Lib.hid (And.intro q1 (And.intro q2 q3)); clear q1 q2 q3)
          | (go_at_call 34; refine (LOSE.out 0 _ _ _ _ _ (by exact S4.out) EF.out ⟨v, rfl, Q.out.1, Q.out.2.1, Q.out.2.2⟩).mono ?_; rintro e w12 ⟨rfl, PP⟩))
        go_ret
        exact ⟨rfl, PP⟩
      · have d1 : decide ((10 : Int) < (id2 : Int)) = false := decide_eq_false (by omega)
        have c1 : w9.cell? ⟨A.lb, 1, none⟩ = some (.pointer (some ⟨A.rb, 0, none⟩)) := at_whole S3.out.lk 1 rfl
        have c6 : w9.cell? ⟨A.lb, 6, none⟩ = some (.int .i64 (nw : Int)) := by
          have : w9.cell? ⟨A.lb, 6, none⟩ = some (.int .i64 L1.now) := at_whole S3.out.lk 6 rfl
          rw [HNW.out.1] at this; exact this
        have EXP := Lib.hid (fun (wx : World) (hx : frm.RecAt wx A.rb A.M K2) => frm.expire_any hx I2.out.ko nw 8 (by omega) (by omega) (by decide) (by decide))
        have EF : Hid (EndF K2 (K2.cut (frm.exF K2.lg nw 8)) (frm.exF K2.lg nw 8) nw idle1 id2) := Lib.hid ⟨rfl, .inl ⟨by omega, hrs.symm, rfl⟩⟩
        have SX : Hid (∀ w' : World, w'.heap[A.lb]? = w9.heap[A.lb]? → w'.cell? ⟨A.lb, 1, none⟩ = some (.pointer (some ⟨A.rb, 0, none⟩)) ∧ w'.cell? ⟨A.lb, 6, none⟩ = some (.int .i64 (nw : Int))) := Lib.hid (fun w' e => ⟨(World.cell?_of_block (a := ⟨A.lb, 1, none⟩) e).trans c1, (World.cell?_of_block (a := ⟨A.lb, 6, none⟩) e).trans c6⟩)
        have SQ : Hid (∀ (v : Value) (w' : World), frm.RemPost A.rb A.M K2 (frm.exF K2.lg nw 8) w9.drew (.returned v) w' → w'.heap[A.lb]? = w9.heap[A.lb]?) := Lib.hid (fun v w' ⟨_, _, _, _, q4⟩ => by
          obtain ⟨mo, m1, m2, _⟩ := S3.out.hm
          have hmo := S3.out.wn.at m1
          have hrb := S3.out.wn.at S3.out.hr
          have hlb := S3.out.lk
          exact q4.block A.lb (heap_lt hlb) (fun e => by rw [e, hrb] at hlb; exact cells_ne (by decide) (Option.some.inj hlb)) (fun e => by rw [e, hmo] at hlb; exact isC_ne m2 _ _ _ (Option.some.inj hlb)))
        have SP : Hid (∀ w' : World, (∃ F' X' K' hs' R' zs' n' top' idle' L' AV' LV' H', StpPost W w' N lim A X K hs R nw idle p fate F' X' K' hs' R' zs' n' top' idle' L' AV' LV' H') → w'.cell? ⟨A.lb, 1, none⟩ = some (.pointer (some ⟨A.rb, 0, none⟩)) ∧ w'.cell? ⟨A.lb, 6, none⟩ = some (.int .i64 (nw : Int))) := Lib.hid (fun w' ⟨_, _, _, _, _, _, _, _, _, L', _, _, _, sp⟩ => by
          refine ⟨at_whole sp.ls.lk 1 rfl, ?_⟩
          have : w'.cell? ⟨A.lb, 6, none⟩ = some (.int .i64 L'.now) := at_whole sp.ls.lk 6 rfl
          rw [sp.now] at this; exact this)
        go_wp2
        clear c1 c6 c7 z7
        go_region_held3 (fun w' => w'.cell? ⟨A.lb, 1, none⟩ = some (.pointer (some ⟨A.rb, 0, none⟩)) ∧ w'.cell? ⟨A.lb, 6, none⟩ = some (.int .i64 (nw : Int)))
          (first | exact SP.out _ PP.out | exact SX.out _ (SQ.out _ _ Q.out) | exact SX.out _ rfl)
          (first
            | (go_at_call 36; refine (EXP.out _ (by exact (S3.out.same (Below.refl _ w9).drew).rcA)).mono ?_; rintro e w11 ⟨v, rfl, q1, q2, q3⟩; have Q : Hid (frm.RemPost A.rb A.M K2 (frm.exF K2.lg nw 8) w9.drew (.returned v) w11) := Lib.hid ⟨v, rfl, q1, q2, q3⟩; clear q1 q2 q3)
            | (go_at_call 34; refine (LOSE.out id2 _ _ _ _ _ (by exact (S3.out.same (Below.refl _ w9).drew)) EF.out Q.out).mono ?_; rintro e w12 ⟨rfl, pp⟩; have PP := Lib.hid pp; clear pp))
        go_wp2
        go_ret
        exact ⟨rfl, PP.out⟩
end Go.Proofs.YtpfkeohaaeiaaaaGreatDoor
/- SendBufCongestion: plain laws: the outstanding packets' bytes, the three parts' sums, the controller's numbers. -/
namespace Go.Proofs.YtpfkeohaaeiaaaaGreatDoor
open Go.RowKit
set_option maxRecDepth 100000
theorem itv_count (a b n : Nat) : (List.range n).countP (fun j => decide (a ≤ j ∧ j < b)) = min b n - min a n := by
  induction n with
  | zero => simp
  | succ n ih =>
    rw [List.range_succ, List.countP_append, ih, List.countP_singleton]
    by_cases h : a ≤ n ∧ n < b
    · simp only [h, and_self, decide_true, if_true]; omega
    · rw [if_neg (by simpa using h)]; omega
theorem countP_two {α : Type} (p q : α → Bool) (l : List α) (h : ∀ x, p x = true → q x = false) : l.countP (fun x => p x || q x) = l.countP p + l.countP q := by
  induction l with
  | nil => rfl
  | cons x l ih =>
    simp only [List.countP_cons, ih]
    cases hp : p x with
    | true => rw [h x hp]; simp; omega
    | false => cases hq : q x <;> simp <;> omega
theorem tot_count {hs : List Fr} {n : Nat} {l : List frm.Pk} (hd : l.Pairwise fun p q => ∀ j, inFr (frP hs p) j → ¬ inFr (frP hs q) j) (hz : ∀ p ∈ l, p.size = (frP hs p).s.size) (hn : ∀ p ∈ l, ∀ j, inFr (frP hs p) j → j < n) :
    tot l = ((List.range n).countP fun j => l.any fun p => decide (inFr (frP hs p) j) : Nat) := by
  induction l with
  | nil => simp [tot]
  | cons p l ih =>
    obtain ⟨h1, h2⟩ := List.pairwise_cons.1 hd
    have e1 := ih h2 (fun q hq => hz q (by simp [hq])) (fun q hq => hn q (by simp [hq]))
    have e2 : ((List.range n).countP fun j => (p :: l).any fun p => decide (inFr (frP hs p) j)) = ((List.range n).countP fun j => decide (inFr (frP hs p) j)) + ((List.range n).countP fun j => l.any fun p => decide (inFr (frP hs p) j)) := by
      have := countP_two (fun j => decide (inFr (frP hs p) j)) (fun j => l.any fun p => decide (inFr (frP hs p) j)) (List.range n) (fun j hj => by
        rw [List.any_eq_false]
        intro q hq hc
        exact h1 q hq j (of_decide_eq_true hj) (of_decide_eq_true hc))
      simpa only [List.any_cons] using this
    have e3 : ((List.range n).countP fun j => decide (inFr (frP hs p) j)) = (frP hs p).s.size := by
      rw [itv_count]
      by_cases h0 : (frP hs p).s.size = 0
      · omega
      · have := hn p (by simp) ((frP hs p).off.toNat + (frP hs p).s.size - 1) ⟨by omega, by omega⟩
        omega
    show p.size + tot l = _
    rw [e1, e2, e3, hz p (by simp)]
    omega
section
variable {N lim : Nat} {X : Wh} {K : frm.Rc} {hs : List Fr} {R : rea.Rb} {zs : List Int} {n top now : Nat}
theorem linv_uniq (h : LInv N lim X K hs R zs n top now) : Uniq K.l := h.ko.up.inc.imp fun hp => by omega
theorem gd_out {l : List Int} {j : Nat} (h : l.length ≤ j) : gd l j = 0 := by simp [gd, List.getElem?_eq_none h]
theorem linv_tot (h : LInv N lim X K hs R zs n top now) : tot K.l ≤ lim := by
  have hj : ∀ p ∈ K.l, ∀ j, inFr (frP hs p) j → X.u ≤ j ∧ j < X.S.length := fun p hp j hi => by
    have h1 := h.bys p hp j hi
    refine ⟨?_, ?_⟩
    · rcases Nat.lt_or_ge j X.u with c | c
      · rw [X.below_u c] at h1; cases h1
      · exact c
    · rcases Nat.lt_or_ge j X.S.length with c | c
      · exact c
      · rw [gd_out (by rw [h.ok.len]; exact c)] at h1; cases h1
  have hd : K.l.Pairwise fun p q => ∀ j, inFr (frP hs p) j → ¬ inFr (frP hs q) j := by
    refine List.Pairwise.imp_of_mem (fun {p q} hp hq hne => ?_) (linv_uniq h)
    exact h.dis p hp q hq hne
  rw [tot_count hd h.szs (fun p hp j hi => (hj p hp j hi).2)]
  have hm : ((List.range X.S.length).countP fun j => K.l.any fun p => decide (inFr (frP hs p) j)) ≤ (List.range X.S.length).countP fun j => decide (X.u ≤ j ∧ j < X.S.length) :=
    List.countP_mono_left fun j _ hc => by
      rw [List.any_eq_true] at hc
      obtain ⟨p, hp, hi⟩ := hc
      exact decide_eq_true (hj p hp j (of_decide_eq_true hi))
  rw [itv_count] at hm
  have := h.ok.cap
  have := h.limE
  omega
theorem linv_sizes (h : LInv N lim X K hs R zs n top now) : ∀ p ∈ K.l, 0 ≤ p.size ∧ p.size ≤ 100 := fun p hp => by
  obtain ⟨_, off, s, fin, e, hs⟩ := h.frP hp
  rw [h.szs p hp, e]
  exact ⟨by omega, by show ((mkFr 8 off s fin).s.size : Int) ≤ 100; simp only [mkFr]; omega⟩
end
/-- how many bear a number -/
def cnO (pn : Int) (l : List frm.Pk) : Nat := l.countP fun p => decide (p.pn = pn)
theorem szOf_one {pn : Int} {l : List frm.Pk} (h : cnO pn l ≤ 1) : szOf pn l = smOf pn l := by
  induction l with
  | nil => rfl
  | cons p l ih =>
    unfold cnO at h ih
    rw [List.countP_cons] at h
    simp only [szOf, smOf]
    split
    · rename_i e
      rw [if_pos (decide_eq_true e)] at h
      have h0 : l.countP (fun p => decide (p.pn = pn)) = 0 := by omega
      rw [smOf_none (fun q hq e2 => by have := List.countP_eq_zero.1 h0 q hq; exact this (decide_eq_true e2))]
      omega
    · rw [ih (by omega)]; omega
theorem cnO_append (pn : Int) (l m : List frm.Pk) : cnO pn (l ++ m) = cnO pn l + cnO pn m := List.countP_append ..
theorem cnO_filter (pn : Int) (f : frm.Pk → Bool) (l : List frm.Pk) : cnO pn (l.filter f) + cnO pn (l.filter fun p => !f p) = cnO pn l := by
  unfold cnO
  induction l with
  | nil => rfl
  | cons p l ih => cases h : f p <;> simp [h, List.countP_cons] <;> omega
theorem Uniq.cn {l : List frm.Pk} (h : Uniq l) (pn : Int) : cnO pn l ≤ 1 := by
  unfold cnO
  induction l with
  | nil => exact Nat.zero_le _
  | cons p l ih =>
    obtain ⟨h1, h2⟩ := List.pairwise_cons.1 h
    rw [List.countP_cons]
    by_cases e : p.pn = pn
    · rw [if_pos (decide_eq_true e), List.countP_eq_zero.2 (fun q hq hc => h1 q hq (e.trans (of_decide_eq_true hc).symm))]
      omega
    · rw [if_neg (by simpa using e)]; exact ih h2
/-- the three parts of the outstanding packets -/
theorem Pk3.sums {l AV LV l' : List frm.Pk} {a e e2 : frm.Pk → Bool} (h : Pk3 l AV LV l' a e e2) (hu : Uniq l) (pn : Int) :
    tot AV + tot LV + tot l' = tot l ∧ szOf pn l' + szOf pn AV + szOf pn LV = smOf pn l := by
  have t1 := tot_filter a l
  have t2 := tot_filter e (l.filter fun p => !a p)
  have t3 := tot_filter e2 ((l.filter fun p => !a p).filter fun p => !e p)
  have s1 := smOf_filter pn a l
  have s2 := smOf_filter pn e (l.filter fun p => !a p)
  have s3 := smOf_filter pn e2 ((l.filter fun p => !a p).filter fun p => !e p)
  have c0 := hu.cn pn
  have c1 := cnO_filter pn a l
  have c2 := cnO_filter pn e (l.filter fun p => !a p)
  have c3 := cnO_filter pn e2 ((l.filter fun p => !a p).filter fun p => !e p)
  rw [h.av, h.lv, h.le]
  refine ⟨by rw [tot_append]; omega, ?_⟩
  rw [szOf_one (by omega), szOf_one (by omega), szOf_one (by rw [cnO_append]; omega), smOf_append]
  omega
theorem Pk3.mem {l AV LV l' : List frm.Pk} {a e e2 : frm.Pk → Bool} (h : Pk3 l AV LV l' a e e2) : (∀ p ∈ AV, p ∈ l) ∧ (∀ p ∈ LV, p ∈ l) := by
  rw [h.av, h.lv]
  refine ⟨fun p hp => (List.mem_filter.1 hp).1, fun p hp => ?_⟩
  rcases List.mem_append.1 hp with hp | hp
  · exact (List.mem_filter.1 (List.mem_filter.1 hp).1).1
  · exact (List.mem_filter.1 (List.mem_filter.1 (List.mem_filter.1 hp).1).1).1
theorem tot_nonneg {l : List frm.Pk} (h : ∀ p ∈ l, 0 ≤ p.size) : 0 ≤ tot l := by
  induction l with
  | nil => exact Int.le_refl _
  | cons p l ih => have := h p (by simp); have := ih (fun q hq => h q (by simp [hq])); simp only [tot]; omega
/-- a controller's numbers that count here -/
structure CB (c : cgn.Ctl) (m b r : Int) : Prop where
  fl : c.flight = m
  s1 : 1024 ≤ c.size
  s2 : c.size ≤ 65536
  bu : c.budget = b
  rf : c.refilled = r
theorem bytesF_id {n : Int} (h0 : 0 ≤ n) (h1 : n ≤ 65536) : cgn.bytesF n = n := by unfold cgn.bytesF; rw [if_neg (by omega)]; rw [if_neg (by omega)]
section
variable {c : cgn.Ctl} {m b r n : Int}
theorem CB.sent (h : CB c m b r) (h0 : 0 ≤ n) (h1 : n ≤ 65536) : CB (cgn.sentF c n) (m + n) (b - n) r := by
  refine ⟨?_, h.s1, h.s2, ?_, h.rf⟩
  · simp only [cgn.sentF, bytesF_id h0 h1, h.fl]
  · simp only [cgn.sentF, bytesF_id h0 h1, h.bu]
theorem CB.disc (h : CB c m b r) (h0 : 0 ≤ n) (h1 : n ≤ 65536) (hm : n ≤ m) : CB (cgn.discF c n) (m - n) b r := by
  refine ⟨?_, h.s1, h.s2, h.bu, h.rf⟩
  simp only [cgn.discF, bytesF_id h0 h1, h.fl]
  rw [if_neg (by omega)]
theorem CB.grow (h : CB c m b r) {x : Int} (h0 : 0 ≤ x) : CB (cgn.growF c x) m b r := by
  have := h.s1
  have := h.s2
  refine ⟨h.fl, ?_, ?_, h.bu, h.rf⟩ <;> simp only [cgn.growF] <;> split <;> omega
theorem CB.acked (h : CB c m b r) (s : Int) (h0 : 0 ≤ n) (h1 : n ≤ 65536) (hm : n ≤ m) : CB (cgn.ackedF c s n) (m - n) b r := by
  have hd := h.disc h0 h1 hm
  unfold cgn.ackedF
  split
  · exact hd
  · split
    · exact hd.grow (by rw [bytesF_id h0 h1]; exact h0)
    · refine hd.grow ?_
      have hs := hd.s1
      rw [bytesF_id h0 h1]
      have hq : 0 ≤ 512 * n / (cgn.discF c n).size := Int.ediv_nonneg (by omega) (by omega)
      unfold cgn.avoidBy
      split
      · split <;> omega
      · exact hq
theorem CB.lost (h : CB c m b r) (now s : Int) (h0 : 0 ≤ n) (h1 : n ≤ 65536) (hm : n ≤ m) : CB (cgn.lostF c now s n) (m - n) b r := by
  have hd := h.disc h0 h1 hm
  unfold cgn.lostF
  split
  · exact hd
  · have hs := hd.s1
    have hs2 := hd.s2
    refine ⟨hd.fl, ?_, ?_, hd.bu, hd.rf⟩ <;> simp only [cgn.halveF] <;> split <;> omega
theorem CB.allow (h : CB c m b r) {k : Nat} (h0 : 0 ≤ m) (hm : m ≤ 100) (hb2 : b ≤ 20000) (hr : r = (k : Int) - 1 ∧ 900 ≤ b ∨ k = 0 ∧ r = 0 ∧ 930 ≤ b) : ∃ b', CB (cgn.refillF c k 5) m b' k ∧ cgn.allowsF (cgn.refillF c k 5) 30 = true ∧ 930 ≤ b' ∧ b' ≤ 20000 := by
  have hs := h.s1
  have hs2 := h.s2
  have hbu := h.bu
  have hrf := h.rf
  have key : ∃ b', CB (cgn.refillF c k 5) m b' k ∧ 930 ≤ b' ∧ b' ≤ 20000 := by
    rcases hr with ⟨hr, hb⟩ | ⟨hk, hr, hb⟩
    · have e1 : cgn.ticksF c k = 1 := by unfold cgn.ticksF; rw [if_pos (by omega)]; omega
      have e2 : cgn.rttF 5 = 5 := by decide
      have e3 : cgn.moreF c k 5 = b + c.size * 5 / 20 := by unfold cgn.moreF; rw [e1, e2, hbu]; simp
      unfold cgn.refillF
      rw [if_pos (by omega), e3]
      refine ⟨_, ⟨h.fl, hs, hs2, rfl, rfl⟩, ?_, ?_⟩ <;> simp only [cgn.capF] <;> split <;> split <;> omega
    · subst hk
      unfold cgn.refillF
      rw [if_neg (by omega)]
      exact ⟨b, ⟨h.fl, hs, hs2, hbu, by rw [hrf, hr]; rfl⟩, hb, hb2⟩
  obtain ⟨b', hc, h1, h2⟩ := key
  refine ⟨b', hc, ?_, h1, h2⟩
  unfold cgn.allowsF
  rw [Bool.and_eq_true]
  refine ⟨decide_eq_true ?_, decide_eq_true ?_⟩
  · rw [bytesF_id (by decide) (by decide), hc.fl]; have := hc.s1; omega
  · rw [hc.bu]; omega
end
end Go.Proofs.YtpfkeohaaeiaaaaGreatDoor
/- SendBufCongestion: what a step leaves of the packets, in numbers; a row of packets kept through a controller's call. -/
namespace Go.Proofs.YtpfkeohaaeiaaaaGreatDoor
open Go.RowKit
set_option maxRecDepth 100000
theorem CR.grown {n cb : Nat} {w w' : World} {v : Value} {l : List frm.Pk} (h : CR n w v l) (hg : w.grownBy w' (some cb)) (hn : cb < n) : CR n w' v l := by
  rcases h with h | ⟨g, cap, cur, h1, h2, h3, h4, h5, h6⟩
  · exact .inl h
  · exact .inr ⟨g, cap, cur, h1, h2, h3, h4, (hg.block g (heap_lt h5) (fun e => by cases e; omega)).trans h5, h6⟩
theorem CR.below {n : Nat} {w w' : World} {v : Value} {l : List frm.Pk} (h : CR n w v l) (hb : Below w.heap.size w w') : CR n w' v l := by
  rcases h with h | ⟨g, cap, cur, h1, h2, h3, h4, h5, h6⟩
  · exact .inl h
  · exact .inr ⟨g, cap, cur, h1, h2, h3, h4, heap_below hb h5, h6⟩
theorem frameR_size {X : Wh} {most : Int} {a t : Nat} (h0 : 0 ≤ most) (hp : X.nextP most 1000 = some (a, t)) : (X.frameR a t).s.size ≤ most.toNat := by
  have hs : (X.frameR a t).s.size ≤ t - a := by
    simp only [Wh.frameR, mkFr]
    rw [strOfNums_size]
    simp only [List.length_take]
    omega
  refine Nat.le_trans hs ?_
  unfold Wh.nextP at hp
  rw [if_neg (by omega)] at hp
  split at hp
  · cases hp
    have := (runLen_le 2 (X.T.drop (first 2 X.T)) most.toNat)
    omega
  · split at hp
    · cases hp; omega
    · split at hp
      · cases hp; omega
      · cases hp
theorem szOf_nonneg {pn : Int} {l : List frm.Pk} (h : ∀ p ∈ l, 0 ≤ p.size) : 0 ≤ szOf pn l := by
  induction l with
  | nil => exact Int.le_refl _
  | cons p l ih =>
    simp only [szOf]
    split
    · exact h p (by simp)
    · exact ih fun q hq => h q (by simp [hq])
/-- the packets' numbers behind a step -/
structure Aft (K K' : frm.Rc) (AV LV : List frm.Pk) (nx : Nat) (p : Option (Nat × Nat)) (n : Nat) : Prop where
  none : p = none → K'.nx = (nx : Int) ∧ n = 0
  some : p.isSome = true → K'.nx = (nx : Int) + 1 ∧ szOf nx K'.l + szOf nx AV + szOf nx LV = n
  n30 : n ≤ 30
  sum : tot AV + tot LV + tot K'.l = tot K.l + n
  sa : ∀ q ∈ AV, 0 ≤ q.size ∧ q.size ≤ 100
  sl : ∀ q ∈ LV, 0 ≤ q.size ∧ q.size ≤ 100
theorem StpPost.aft {W w' : World} {N lim : Nat} {A : Lad} {X : Wh} {K : frm.Rc} {hs : List Fr} {R : rea.Rb} {zs : List Int} {n0 top0 nw idle : Nat} {p : Option (Nat × Nat)} {fate : Int} {F' : Nat → Prop} {X' : Wh} {K' : frm.Rc} {hs' : List Fr} {R' : rea.Rb} {zs' : List Int} {n' top' idle' : Nat} {L' : Lnk} {AV' LV' : List frm.Pk} {H' : Nat → Option Obj}
    (h : StpPost W w' N lim A X K hs R nw idle p fate F' X' K' hs' R' zs' n' top' idle' L' AV' LV' H') {now : Nat} (hI : LInv N lim X K hs R zs n0 top0 now) (hp : X.nextP 30 1000 = p) : ∃ n, Aft K K' AV' LV' hs.length p n := by
  obtain ⟨X1, K1, i1, a, e, e2, s, k3, hnx⟩ := h.pk
  have hsz := linv_sizes hI
  have hu := linv_uniq hI
  have hbnd := hI.ko.up.bnd
  have hK := hI.nx
  cases hp' : p with
  | none =>
    obtain ⟨_, e1, _, _⟩ := s.none hp'
    subst e1
    have hq := k3.sums hu 0
    refine ⟨0, fun _ => ⟨by rw [hnx, hK], rfl⟩, fun h => by simp at h, by omega, by omega, fun q hq => hsz q (k3.mem.1 q hq), fun q hq => hsz q (k3.mem.2 q hq)⟩
  | some pc =>
    obtain ⟨a0, t0⟩ := pc
    obtain ⟨_, ⟨fv, e1⟩, _, _⟩ := s.some a0 t0 hp'
    have h30 : (X.frameR a0 t0).s.size ≤ 30 := frameR_size (by decide) (hp.trans hp')
    subst e1
    have hl1 : (K.add ⟨K.nx, nw, (X.frameR a0 t0).s.size, true, fv⟩).l = K.l ++ [⟨K.nx, nw, (X.frameR a0 t0).s.size, true, fv⟩] := rfl
    rw [hl1] at k3
    have hu1 : Uniq (K.l ++ [⟨K.nx, nw, (X.frameR a0 t0).s.size, true, fv⟩]) := by
      refine List.pairwise_append.2 ⟨hu, List.pairwise_singleton _ _, fun q hq q2 hq2 => ?_⟩
      rw [List.mem_singleton.1 hq2]
      have := hbnd q hq
      show q.pn ≠ K.nx
      omega
    have hsz1 : ∀ q ∈ K.l ++ [⟨K.nx, nw, (X.frameR a0 t0).s.size, true, fv⟩], 0 ≤ q.size ∧ q.size ≤ 100 := fun q hq => by
      rcases List.mem_append.1 hq with hq | hq
      · exact hsz q hq
      · rw [List.mem_singleton.1 hq]; exact ⟨by show (0 : Int) ≤ ((X.frameR a0 t0).s.size : Int); omega, by show ((X.frameR a0 t0).s.size : Int) ≤ 100; omega⟩
    have hq := k3.sums hu1 (hs.length : Int)
    have ht : tot (K.l ++ [⟨K.nx, nw, (X.frameR a0 t0).s.size, true, fv⟩]) = tot K.l + ((X.frameR a0 t0).s.size : Int) := by rw [tot_append]; simp [tot]
    have hm : smOf (hs.length : Int) (K.l ++ [⟨K.nx, nw, (X.frameR a0 t0).s.size, true, fv⟩]) = ((X.frameR a0 t0).s.size : Int) := by
      rw [smOf_append, smOf_none (fun q hq => by have := hbnd q hq; omega)]
      simp [smOf, hK]
    refine ⟨(X.frameR a0 t0).s.size, fun h => by simp at h, fun _ => ⟨?_, by rw [hm] at hq; exact hq.2⟩, h30, by rw [ht] at hq; exact hq.1, fun q hq => hsz1 q (k3.mem.1 q hq), fun q hq => hsz1 q (k3.mem.2 q hq)⟩
    rw [hnx]
    show K.nx + 1 = _
    rw [hK]
end Go.Proofs.YtpfkeohaaeiaaaaGreatDoor
/- SendBufCongestion: a row of packets read one by one; the sums as packets go; the controller's calls on the Link's state. -/
namespace Go.Proofs.YtpfkeohaaeiaaaaGreatDoor
open Go.RowKit
set_option maxRecDepth 100000
theorem CR.form {n : Nat} {w : World} {v : Value} {l : List frm.Pk} (h : CR n w v l) : ∃ a cap, v = .slice a l.length cap ∧ l.length ≤ 9223372036854775807 := by
  rcases h with ⟨rfl, rfl⟩ | ⟨g, cap, cur, rfl, h2, h3, _⟩
  · exact ⟨none, 0, rfl, by simp⟩
  · exact ⟨_, cap, rfl, by unfold maxLen at h3; omega⟩
theorem CR.at {n : Nat} {w : World} {v : Value} {l : List frm.Pk} (h : CR n w v l) {j : Nat} (hj : j < l.length) : ∃ g cap, v = .slice (some ⟨g, 0, none⟩) l.length cap ∧ l.length ≤ cap ∧ cap ≤ 9223372036854775807 ∧
    w.cell? ⟨g, j * 5 + 1, none⟩ = some (.int .i64 (l[j]'hj).time) ∧ w.cell? ⟨g, j * 5 + 2, none⟩ = some (.int .i64 (l[j]'hj).size) := by
  rcases h with ⟨rfl, rfl⟩ | ⟨g, cap, cur, rfl, h2, h3, h4, h5, h6⟩
  · simp at hj
  · obtain ⟨_, q2, q3, _⟩ := h6 j hj
    refine ⟨g, cap, rfl, h2, by unfold maxLen at h3; omega, ?_, ?_⟩
    · rw [cell_whole h5]; exact q2
    · rw [cell_whole h5]; exact q3
theorem tot_drop {l : List frm.Pk} {j : Nat} (hj : j < l.length) : tot (l.drop j) = (l[j]'hj).size + tot (l.drop (j + 1)) := by
  rw [List.drop_eq_getElem_cons hj]; rfl
theorem tot_take {l : List frm.Pk} {j : Nat} (hj : j < l.length) : tot (l.take (j + 1)) = tot (l.take j) + (l[j]'hj).size := by
  rw [List.take_succ_eq_append_getElem hj, tot_append]; simp [tot]
theorem tot_le {l : List frm.Pk} (h : ∀ p ∈ l, 0 ≤ p.size) (j : Nat) : 0 ≤ tot (l.take j) ∧ tot (l.take j) ≤ tot l := by
  have h1 := tot_nonneg (l := l.take j) fun p hp => h p (List.mem_of_mem_take hp)
  have h2 := tot_nonneg (l := l.drop j) fun p hp => h p (List.mem_of_mem_drop hp)
  have h3 := tot_append (l.take j) (l.drop j)
  rw [List.take_append_drop] at h3
  omega
theorem szOf_map (pn : Int) (l l' : List frm.Pk) (h : l.map (fun p => (p.pn, p.size)) = l'.map fun p => (p.pn, p.size)) : szOf pn l = szOf pn l' := by
  induction l generalizing l' with
  | nil => cases l' with
    | nil => rfl
    | cons q l' => simp at h
  | cons p l ih => cases l' with
    | nil => simp at h
    | cons q l' =>
      simp only [List.map_cons, List.cons.injEq, Prod.mk.injEq] at h
      simp only [szOf, h.1.1, h.1.2, ih l' h.2]
theorem CR.sz {n n' : Nat} {w : World} {v : Value} {l l' : List frm.Pk} (h : CR n w v l) (k : CR n' w v l') (pn : Int) : szOf pn l = szOf pn l' := by
  rcases h with ⟨rfl, rfl⟩ | ⟨g, cap, cur, rfl, _, _, _, h5, h6⟩
  · rcases k with ⟨_, rfl⟩ | ⟨g, cap, cur, e, _⟩
    · rfl
    · cases e
  · rcases k with ⟨e, _⟩ | ⟨g', cap', cur', e, _, _, _, k5, k6⟩
    · cases e
    · have e0 := congrArg (fun v => match v with | .slice (some a) n _ => (a.block, n) | _ => (0, 0)) e
      simp only [Prod.mk.injEq] at e0
      obtain ⟨rfl, hl⟩ := e0
      rw [h5] at k5
      simp only [Option.some.injEq, Obj.cells.injEq] at k5
      obtain ⟨rfl, _⟩ := k5
      refine szOf_map pn l l' (List.ext_getElem (by simp [hl]) fun i h1 h2 => ?_)
      simp only [List.length_map] at h1 h2
      obtain ⟨a1, _, a3, _⟩ := h6 i h1
      obtain ⟨b1, _, b3, _⟩ := k6 i h2
      rw [a1] at b1
      rw [a3] at b3
      simp at b1 b3
      simp [b1, b3]
/-- sizeOf at any of three rows, as a function of the row -/
theorem sz_all {n1 n2 n3 : Nat} {w : World} {v1 v2 v3 : Value} {l1 l2 l3 : List frm.Pk} (h1 : CR n1 w v1 l1) (h2 : CR n2 w v2 l2) (h3 : CR n3 w v3 l3) (pn : Int) :
    ∃ f : Value → Int, f v1 = szOf pn l1 ∧ f v2 = szOf pn l2 ∧ f v3 = szOf pn l3 ∧ ∀ m v, (v = v1 ∨ v = v2 ∨ v = v3) → Calls Tryz.prog 17 #[.int .i64 pn, v] (w.drewN m) fun e w' => e = .returned (.int .i64 (f v)) ∧ w' = w.drewN m := by
  classical
  refine ⟨fun v => if h : ∃ n l, CR n w v l then szOf pn h.choose_spec.choose else 0, ?_, ?_, ?_, fun m v hv => ?_⟩
  · have h : ∃ n l, CR n w v1 l := ⟨_, _, h1⟩
    simp only [dif_pos h]
    exact CR.sz h.choose_spec.choose_spec h1 pn
  · have h : ∃ n l, CR n w v2 l := ⟨_, _, h2⟩
    simp only [dif_pos h]
    exact CR.sz h.choose_spec.choose_spec h2 pn
  · have h : ∃ n l, CR n w v3 l := ⟨_, _, h3⟩
    simp only [dif_pos h]
    exact CR.sz h.choose_spec.choose_spec h3 pn
  · have h : ∃ n l, CR n w v l := by rcases hv with rfl | rfl | rfl; exact ⟨_, _, h1⟩; exact ⟨_, _, h2⟩; exact ⟨_, _, h3⟩
    simp only [dif_pos h]
    exact (sizeOf_any _ _ _ _ _ (h.choose_spec.choose_spec.below (belowN (Below.refl _ _) m))).mono fun e w' q => ⟨q.1, q.2.symm⟩
/-- a controller's state in a round -/
structure Ctr (W w : World) (A : Lad) (cb : Nat) (F : Nat → Prop) (X : Wh) (K : frm.Rc) (hs : List Fr) (R : rea.Rb) (zs : List Int) (L : Lnk) (AV LV : List frm.Pk) (m : Int) (b : Int) (k n0 : Nat) (lv : Value) : Prop where
  ex : ∃ c H, Ls W w (A.wc cb c) F X K hs R zs L AV LV H ∧ CB c m b k
  cr : CR n0 w lv K.l
section
variable {W w w' : World} {A : Lad} {cb : Nat} {F : Nat → Prop} {X : Wh} {K : frm.Rc} {hs : List Fr} {R : rea.Rb} {zs : List Int} {L : Lnk} {AV LV : List frm.Pk} {m b : Int} {k n0 : Nat} {lv : Value}
theorem Ctr.same (h : Ctr W w A cb F X K hs R zs L AV LV m b k n0 lv) (hb : Below w.heap.size w w') : Ctr W w' A cb F X K hs R zs L AV LV m b k n0 lv := by
  obtain ⟨⟨c, H, h1, h2⟩, h3⟩ := h
  exact ⟨⟨c, H, h1.same hb, h2⟩, h3.below hb⟩
theorem Ctr.acked (h : Ctr W w A cb F X K hs R zs L AV LV m b k n0 lv) (hn : cb < n0) (now s : Int) {n : Int} (h0 : 0 ≤ n) (h1 : n ≤ 65536) (hm : n ≤ m) (hM : m ≤ 1000) :
    Calls Tryz.prog 21 #[.pointer (some ⟨cb, 0, none⟩), .int .i64 now, .int .i64 s, .int .i64 n] w fun e w' => e = .returned (.tuple #[]) ∧ Ctr W w' A cb F X K hs R zs L AV LV (m - n) b k n0 lv := by
  obtain ⟨⟨c, H, q1, q2⟩, q3⟩ := h
  have hf := q2.fl
  refine (cgn.acked_any cb c now s n w q1.ctl (by omega) (by omega) q2.s1 q2.s2).mono fun e w' hh => ?_
  obtain ⟨H3, h3, _⟩ := q1.turnC hh.2
  exact ⟨hh.1, ⟨_, _, h3, q2.acked s h0 h1 hm⟩, q3.grown hh.2.2 hn⟩
theorem Ctr.lost (h : Ctr W w A cb F X K hs R zs L AV LV m b k n0 lv) (hn : cb < n0) (now s : Int) {n : Int} (h0 : 0 ≤ n) (h1 : n ≤ 65536) (hm : n ≤ m) (hM : m ≤ 1000) :
    Calls Tryz.prog 22 #[.pointer (some ⟨cb, 0, none⟩), .int .i64 now, .int .i64 s, .int .i64 n] w fun e w' => e = .returned (.tuple #[]) ∧ Ctr W w' A cb F X K hs R zs L AV LV (m - n) b k n0 lv := by
  obtain ⟨⟨c, H, q1, q2⟩, q3⟩ := h
  have hf := q2.fl
  refine (cgn.lost_any cb c now s n w q1.ctl (by omega) (by omega) q2.s1 q2.s2).mono fun e w' hh => ?_
  obtain ⟨H3, h3, _⟩ := q1.turnC hh.2
  exact ⟨hh.1, ⟨_, _, h3, q2.lost now s h0 h1 hm⟩, q3.grown hh.2.2 hn⟩
theorem Ctr.cells (h : Ctr W w A cb F X K hs R zs L AV LV m b k n0 lv) : w.cell? ⟨A.lb, 1, none⟩ = some (.pointer (some ⟨A.rb, 0, none⟩)) ∧ w.cell? ⟨A.lb, 6, none⟩ = some (.int .i64 L.now) ∧ w.cell? ⟨A.lb, 8, none⟩ = some L.av ∧ w.cell? ⟨A.lb, 9, none⟩ = some L.lv := by
  obtain ⟨⟨c, H, q1, q2⟩, q3⟩ := h
  exact ⟨at_whole q1.lk 1 rfl, at_whole q1.lk 6 rfl, at_whole q1.lk 8 rfl, at_whole q1.lk 9 rfl⟩
theorem Ctr.ra (h : Ctr W w A cb F X K hs R zs L AV LV m b k n0 lv) : CR W.heap.size w L.av AV := by
  obtain ⟨⟨c, H, q1, q2⟩, q3⟩ := h
  exact q1.ra.cr q1.wn
theorem Ctr.rl (h : Ctr W w A cb F X K hs R zs L AV LV m b k n0 lv) : CR W.heap.size w L.lv LV := by
  obtain ⟨⟨c, H, q1, q2⟩, q3⟩ := h
  exact q1.rl.cr q1.wn
theorem Ctr.now (h : Ctr W w A cb F X K hs R zs L AV LV m b k n0 lv) : (Calls Tryz.prog 19 #[.pointer (some ⟨cb, 0, none⟩)] w fun e w' => e = .returned (.int .i64 m) ∧ w = w') ∧ (∃ z : Int, 1024 ≤ z ∧ Calls Tryz.prog 20 #[.pointer (some ⟨cb, 0, none⟩)] w fun e w' => e = .returned (.int .i64 z) ∧ w = w') ∧
    Calls Tryz.prog 14 #[.pointer (some ⟨A.rb, 0, none⟩)] w fun e w' => e = .returned (.int .i64 K.nx) ∧ w = w' := by
  obtain ⟨⟨c, H, q1, q2⟩, q3⟩ := h
  exact ⟨by have := cgn.flight_any cb c w q1.ctl; rw [q2.fl] at this; exact this, ⟨c.size, q2.s1, cgn.window_any cb c w q1.ctl⟩, frm.next_any q1.rcA⟩
end
end Go.Proofs.YtpfkeohaaeiaaaaGreatDoor
/- SendBufReliable: newLink. -/
namespace Go.Proofs.YtpfkeohaaeiaaaaGreatDoor
open Go.RowKit
set_option maxRecDepth 100000
theorem upd_heap {w : World} {k1 k2 : Nat} {o1 o2 : Obj} (h1 : w.heap[k1]? = some o1) (h2 : w.heap[k2]? = some o2) (hne : o1 ≠ o2) : k1 ≠ k2 := fun e => by
  rw [e, h2] at h1; cases h1; exact hne rfl
theorem Ls.make {W w : World} {A : Lad} {F : Nat → Prop} {X : Wh} {K : frm.Rc} {R : rea.Rb} {zs : List Int} {L : Lnk} (hs : List Fr) (h : Wn W w A.b F X (fun _ => none)) (hl : w.heap[A.lb]? = some (.cells (L.cs A) 35 (0, 0))) (hr : frm.RecAt w A.rb A.M K) (hb : rea.RbAt w A.bi A.g1 A.g2 R) (ht : frm.TkAt w A.tb zs) (hK : K.l = [])
    (hav : L.av = .slice none 0 0) (hlv : L.lv = .slice none 0 0) (hcx : A.cx = none) (nf : ∀ k, k = A.lb ∨ k = A.rb ∨ k = A.M ∨ k = A.bi ∨ k = A.g1 ∨ k = A.g2 ∨ k = A.tb → ¬ F k ∧ W.heap.size ≤ k) : ∃ H, Ls W w A F X K hs R zs L [] [] H := by
  obtain ⟨mo, n1, n2⟩ : ∃ mo, w.heap[A.M]? = some mo ∧ frm.isC mo = false := by
    have hlt := hr.2.lt
    exact ⟨_, Array.getElem?_eq_getElem hlt, frm.RecAt.noC hr (Array.getElem?_eq_getElem hlt)⟩
  have nM : ∀ {k : Nat} {cs : Array Value} {T : TypeId}, w.heap[k]? = some (.cells cs T (0, 0)) → k ≠ A.M := fun hk e => by
    rw [e, n1] at hk; exact isC_ne n2 _ _ _ (Option.some.inj hk)
  have w1 := h.add (o := tkO zs) ht.2 (nf A.tb (by simp)).1 (nf A.tb (by simp)).2
  have w2 := w1.add hb.o2 (nf A.g2 (by simp)).1 (nf A.g2 (by simp)).2
  have w3 := w2.add hb.o1 (nf A.g1 (by simp)).1 (nf A.g1 (by simp)).2
  have w4 := w3.add hb.ob (nf A.bi (by simp)).1 (nf A.bi (by simp)).2
  have w5 := w4.add (o := recO A.M K) hr.1 (nf A.rb (by simp)).1 (nf A.rb (by simp)).2
  have w6 := w5.add hl (nf A.lb (by simp)).1 (nf A.lb (by simp)).2
  have w7 := w6.add n1 (nf A.M (by simp)).1 (nf A.M (by simp)).2
  refine ⟨_, w7, ?_, ?_, ⟨mo, upd_same _ _ _, n2, hr.2⟩, ?_, ?_, ?_, ?_, hb.hl, hb.sm, ht.1, fun p hp => (by rw [hK] at hp; cases hp), .inl ⟨hav, rfl⟩, .inl ⟨hlv, rfl⟩, fun k hk => (by rw [hav] at hk; cases hk), fun c hc => (by rw [hcx] at hc; cases hc)⟩
  · rw [upd_other _ _ (nM hl), upd_same]
  · rw [upd_other _ _ (nM hr.1), upd_other _ _ (upd_heap hr.1 hl (cells_ne (by decide))), upd_same]
  · rw [upd_other _ _ (nM hb.ob), upd_other _ _ (upd_heap hb.ob hl (cells_ne (by decide))), upd_other _ _ (upd_heap hb.ob hr.1 (cells_ne (by decide))), upd_same]
  · rw [upd_other _ _ (nM hb.o1), upd_other _ _ (upd_heap hb.o1 hl (cells_ne (by decide))), upd_other _ _ (upd_heap hb.o1 hr.1 (cells_ne (by decide))), upd_other _ _ (upd_heap hb.o1 hb.ob (cells_ne (by decide))), upd_same]
  · rw [upd_other _ _ (nM hb.o2), upd_other _ _ (upd_heap hb.o2 hl (cells_ne (by decide))), upd_other _ _ (upd_heap hb.o2 hr.1 (cells_ne (by decide))), upd_other _ _ (upd_heap hb.o2 hb.ob (cells_ne (by decide))), upd_other _ _ (upd_heap hb.o2 hb.o1 (cells_ne (by decide))), upd_same]
  · rw [upd_other _ _ (nM ht.2), upd_other _ _ (upd_heap ht.2 hl (cells_ne (by decide))), upd_other _ _ (upd_heap ht.2 hr.1 (cells_ne (by decide))), upd_other _ _ (upd_heap ht.2 hb.ob (cells_ne (by decide))), upd_other _ _ (upd_heap ht.2 hb.o1 (cells_ne (by decide))), upd_other _ _ (upd_heap ht.2 hb.o2 (cells_ne (by decide))), upd_same]
def lnk0 : Lnk := ⟨⟨#[]⟩, false, 0, 0, .slice none 0 0, .slice none 0 0⟩
theorem frm_zs0 : frm.Tg (frm.zs0 0) 0 0 (-1) 0 0 := by
  refine ⟨rfl, rfl, by decide, fun k hk => by omega, fun j k _ hk => by omega, by decide, by decide, by decide, ?_, rfl, rfl, by decide, by decide, by decide, by decide⟩
  exact ⟨by decide, by decide⟩
set_option maxHeartbeats 4000000 in
theorem newLink_any {W w : World} (limit : Int) (hB : Below W.heap.size W w) (h1 : -9223372036854775808 ≤ limit) (h2 : limit ≤ 9223372036854775807) :
    Calls Tryz.prog 8 #[.int .i64 limit] w fun e w' => ∃ A F H, e = .returned (.tuple #[.pointer (some ⟨A.lb, 0, none⟩), .bool true]) ∧ A.cx = none ∧ Ls W w' A F (newX (1 + pickF limit 100)) ⟨[], 0, -1⟩ [] (rea.newRb 600) (frm.zs0 0) lnk0 [] [] H := by
  have PK := Lib.hid (fun (wx : World) => pick_any limit 100 wx h1 h2 (by decide) (by decide))
  have rp := pickF_range limit 100 (by decide)
  generalize pickF limit 100 = q at *
  have hw1 : IntKind.i64.wrap (1 + q) = 1 + q := IntWalk.i64_in _ (by omega)
  have NB := Lib.hid (fun (wx : World) (hx : Below W.heap.size W wx) => wn_new (W := W) (w := wx) (1 + q) (by omega) (by omega) hx)
  have NR := Lib.hid (fun (wx : World) => rea.new_any 600 (by decide) (by decide) wx)
  have NT := Lib.hid (fun (wx : World) => frm.new_tr 0 (by decide) (by decide) wx)
  have NL := Lib.hid (fun (wx : World) => frm.new_any wx)
  have HB := Lib.hid hB
  clear hB
  go_enter Tryz.func8, Tryz.ntmps8
  go_wp2_with (first
    | (go_at_call 7; refine (PK.out _).mono ?_; rintro e w0 ⟨rfl, rfl⟩)
    | (go_at_call 23; refine (NB.out _ HB.out).mono ?_; rintro e w1 ⟨rfl, h1⟩; have B1 := Lib.hid h1; clear h1)
    | (go_at_call 28; refine (NR.out _).mono ?_; rintro e w2 ⟨bi, g1, g2, rfl, r1, r2, r3, r4, r5⟩; have B2 := Lib.hid (And.intro r1 (And.intro r2 (And.intro r3 (And.intro r4 r5)))); clear r1 r2 r3 r4 r5)
    | (go_at_call 29; refine (NT.out _).mono ?_; rintro e w3 ⟨rfl, h3⟩; have B3 := Lib.hid h3; clear h3)
    | (go_at_call 30; refine (NL.out _).mono ?_; rintro e w4 ⟨rb, M, rfl, r1, r2, r3, r4⟩; have B4 := Lib.hid (And.intro r1 (And.intro r2 (And.intro r3 r4))); clear r1 r2 r3 r4))
  go_ret2
  obtain ⟨r1, r2, r3, r4, r5⟩ := B2.out
  obtain ⟨q1, q2, q3, q4⟩ := B4.out
  have h3 := B3.out
  subst h3
  have b1 := B1.out
  have al := (Below.refl _ w2).alloc (Nat.le_refl _) (.cells ((frm.zs0 0).map (Value.int .i64)).toArray 108)
  have al4 := (Below.refl _ w4).alloc (Nat.le_refl _) (.cells #[.pointer (some ⟨w.heap.size, 0, none⟩), .pointer (some ⟨rb, 0, none⟩), .pointer (some ⟨bi, 0, none⟩), .pointer (some ⟨w2.heap.size, 0, none⟩), .string ⟨#[]⟩, .bool false, .int .i64 0, .int .i64 0, .slice none 0 0, .slice none 0 0] 35)
  have k34 := q4.trans (al4.mono q4.size)
  have k24 := al.trans (k34.mono al.size)
  have s1 := al.size
  have s2 := q4.size
  have s3 := r2.size
  have sb := b1.own _ rfl
  have sW := b1.below.size
  simp only [World.size_alloc] at s1 s2 q1 q2
  obtain ⟨H, hL⟩ := Ls.make (A := ⟨w.heap.size, rb, M, bi, g1, g2, w2.heap.size, w4.heap.size, none⟩) (K := ⟨[], 0, -1⟩) (R := rea.newRb 600) (zs := frm.zs0 0) (L := lnk0) [] ((((b1.same r2).same al).same q4).same al4) (heap_alloc_new w4 _) (q3.below al4) ⟨heap_below k24 r1.ob, heap_below k24 r1.o1, heap_below k24 r1.o2, r1.hl, r1.sm⟩ ⟨rfl, heap_below k34 (heap_alloc_new w2 _)⟩ rfl rfl rfl rfl (fun k hk => by
    simp only at hk
    rcases hk with rfl | rfl | rfl | rfl | rfl | rfl | rfl <;> (refine ⟨?_, ?_⟩ <;> first | omega | trace_state))
  exact ⟨_, _, H, rfl, rfl, hL⟩
end Go.Proofs.YtpfkeohaaeiaaaaGreatDoor
