/- SendBufDelivers: whatever frames are lost, everything arrives. -/
import Derived.Test.YtmjekepiplibkaaDeA
import Derived.Test.YtmjekepiplibkaaT
import Derived.Test.YtmjekepiplibkaaS
import Derived.Test.YtmjekepiplibkaaStructs
import Derived.Deep.DeepCutAuto
import Derived.Deep.CutBlock
import Derived.StillTailTactics
namespace Go.Proofs.Ytmjekepiplibkaa
open Go.RowKit
/-- the block of the received bytes: the first u are there -/
def gotO (N u : Nat) : Obj := .cells ((streamRow N u).map (Value.int .u8)).toArray 5 (0, 0)
theorem own_full {w : World} {g n : Nat} {xs : List Value} (h : w.ownsRow 0 5 1 (.slice (some ⟨g, 0, none⟩) n n) n xs) : w.heap[g]? = some (.cells xs.toArray 5 (0, 0)) := by
  rcases h.2 with ⟨e, _⟩ | ⟨g', cap, cur, e, _, hg, _, _, hs, ht⟩
  · cases e
  · simp only [Value.slice.injEq, Option.some.injEq, Addr.mk.injEq] at e
    obtain ⟨⟨rfl, _, _⟩, _, rfl⟩ := e
    rw [hg]
    have : cur = xs.toArray := by
      rw [← ht, List.take_of_length_le (by simp; omega)]
    rw [this]
theorem conv_got {w : World} {g N : Nat} (h : w.heap[g]? = some (gotO N N)) : (convert 31 9 (.slice (some ⟨g, 0, none⟩) N N)).run Try.prog w = .ok (.string (strOfNums (streamRow N N))) w :=
  run_convert_bytes_arg w 31 5 Try.underlying31 Try.underlying5 g 0 N N (streamRow N N) (streamRow_length _ _) (fun i hi => by
    rw [Nat.zero_add, cell_whole h, List.getD_eq_getElem?_getD]
    simp [streamRow, hi]) 9 Try.underlying9
theorem deN_cases (lim N a u : Nat) (h1 : a ≤ N) (h2 : a - u ≤ lim) (h3 : 1 ≤ lim) (hu : u ≤ a) : a + deN lim N a u ≤ N ∧ (a + deN lim N a u ≠ N → u < a + deN lim N a u) := by unfold deN; omega
theorem DeX.cap {W w : World} {b : Nat} {F : Nat → Prop} {X : Wh} {os : List (Nat × Obj)} {v : Value} {l : List Fr} {lim N a u s : Nat} (hD : DeX lim N a u s X) (h : Sf W w b F X os v l) : a - u ≤ lim := by
  have := h.ok.cap; rw [hD.Sl, hD.xu, hD.lim] at this; omega
theorem got_set {N j : Nat} (h : j < N) : ((streamRow N j).map (Value.int .u8)).toArray.setIfInBounds j (.int .u8 (streamAt j)) = ((streamRow N (j + 1)).map (Value.int .u8)).toArray := by
  rw [← streamRow_succ N j h, List.map_set]; simp
theorem Sf.got {W w : World} {b g gf N j : Nat} {F : Nat → Prop} {X : Wh} {l : List Fr} {v : Value} {f : Fr} (h : Sf W w b F X [(gf, frO f), (g, gotO N j)] v l) (hne : g < gf) (hj : j < N) {x : Int} (hx : x = streamAt j) :
    Sf W (w.setCell ⟨g, j, none⟩ (.int .u8 x)).drew b F X [(gf, frO f), (g, gotO N (j + 1))] v l := by
  subst hx
  have h1 := h.sub (os' := [(g, gotO N j), (gf, frO f)]) (by simp)
  have h2 := h1.turn (w' := w.setCell ⟨g, j, none⟩ (.int .u8 (streamAt j))) (o' := gotO N (j + 1)) (grown_set (grown_refl _ _) _) (by
    rw [heap_set _ (h1.far (g, gotO N j) (List.mem_cons_self ..)).1, got_set hj]; rfl) (fun p hp => by simp only [List.mem_singleton] at hp; subst hp; show gf ≠ g; omega)
  exact (h2.sub (os' := [(gf, frO f), (g, gotO N (j + 1))]) (by simp)).same ((Below.refl _ _).drew)
theorem btrans2 {a b c : World} (h : Below a.heap.size a b) (k : Below b.heap.size b c) : Below a.heap.size a c := h.trans (k.mono h.size)
section
variable {W w w' : World} {b : Nat} {F : Nat → Prop} {X : Wh} {os : List (Nat × Obj)} {l : List Fr}
theorem Sf.add (h : Sf W w b F X os (.slice none 0 0) l) {g : Nat} {o : Obj} (hg : w.heap[g]? = some o) (hF : ¬ F g) (hW : W.heap.size ≤ g) : Sf W w b F X ((g, o) :: os) (.slice none 0 0) l :=
  ⟨h.inv, h.ok, h.own, h.below, fun p hp => by rcases List.mem_cons.1 hp with rfl | hp; exact ⟨hg, hF, hW⟩; exact h.far p hp, h.row, fun k hk => by cases hk⟩
/-- 'make([]byte, N)' of the call's own -/
theorem Sf.made (h : Sf W w b F X os (.slice none 0 0) l) {N : Nat} (ho : w'.ownsRow 0 5 1 (.slice (some ⟨w.heap.size, 0, none⟩) N N) N (madeCells (Value.int .u8 0).cells (N * 1)).toList) (hg : w.grownBy w' none) : Sf W w' b F X ((w.heap.size, gotO N 0) :: os) (.slice none 0 0) l := by
  have hB : Below w.heap.size w w' := ⟨hg.os, hg.tape, hg.output, hg.size, fun k hk => hg.block k hk (by simp)⟩
  refine (h.same hB).add ?_ (fun hF => Nat.lt_irrefl _ (h.own _ hF).2) h.below.size
  have := own_full ho
  rw [madeCells_u8] at this
  exact this
end
end Go.Proofs.Ytmjekepiplibkaa
namespace Go.Proofs.Ytmjekepiplibkaa.sendBufDelivers
open Go.RowKit Go.WideShapes Go.ChangeShapes
set_option maxRecDepth 100000 in
set_option maxHeartbeats 16000000 in
theorem walk (many limit : Int) (zs : List Int) (a0 : Option Addr) (cap0 : Nat) (a1 : Option Addr) (len1 cap1 : Nat) (w : World) (hm : -9223372036854775808 ≤ many ∧ many ≤ 9223372036854775807) (hl : -9223372036854775808 ≤ limit ∧ limit ≤ 9223372036854775807)
    (hz : IntsAt .i64 w (.slice a0 zs.length cap0) zs) (hmz : zs.length ≤ maxLen) (hrz : ∀ n ∈ zs, (Lit.int .i64 n).wf = true)
    (hlb : len1 ≤ cap1) (hb : len1 = 0 ∨ ∃ b off, a1 = some ⟨b, off, none⟩ ∧ cap1 ≤ maxLen ∧ b < w.heap.size ∧ ∀ i, i < len1 → w.cell? ⟨b, off + i, none⟩ = some (.bool (boolAt w b (off + i)))) :
    Calls Try.prog 3 #[.int .i64 many, .int .i64 limit, .slice a0 zs.length cap0, .slice a1 len1 cap1] w fun e w' => e = .returned (.bool true) ∧ Below w.heap.size w w' := by
  unfold maxLen at hmz
  have PM := Lib.hid (fun (wx : World) => pick_any many 200 wx hm.1 hm.2 (by decide) (by decide))
  have PL := Lib.hid (fun (wx : World) => pick_any limit 60 wx hl.1 hl.2 (by decide) (by decide))
  have r1 := pickF_range many 200 (by decide)
  have r2 := pickF_range limit 60 (by decide)
  generalize pickF many 200 = p at *
  generalize pickF limit 60 = q at *
  obtain ⟨N, rfl⟩ : ∃ N : Nat, p = N := ⟨p.toNat, by omega⟩
  obtain ⟨z, rfl⟩ : ∃ z : Nat, q = z := ⟨q.toNat, by omega⟩
  have hN : N < 200 := by omega
  have hz60 : z < 60 := by omega
  have HZ := Lib.hid hz
  have HRZ := Lib.hid hrz
  have HBL := Lib.hid hb
  clear hz hrz hm hl r1 r2 hb
  have NW := Lib.hid (fun (wx : World) (hB : Below w.heap.size w wx) => (show Calls Try.prog 12 #[.int .i64 (1 + (z : Int))] wx fun e w' => e = .returned (.tuple #[.pointer (some ⟨wx.heap.size, 0, none⟩), .int .i64 0]) ∧ Sf w w' wx.heap.size (fun k => k = wx.heap.size) (newX ((z + 1 : Nat) : Int)) [] (.slice none 0 0) [] from by
    rw [show (1 + (z : Int)) = ((z + 1 : Nat) : Int) by omega]; exact sf_new _ (by omega) (by omega) hB))
  have ST := Lib.hid (fun (wx : World) => stream_any N wx (by omega))
  have hAs := strOfNums_size (streamRow N N)
  rw [streamRow_length] at hAs
  have HAB := Lib.hid (stream_bytes N)
  obtain ⟨Al, hAl⟩ : ∃ Al, strOfNums (streamRow N N) = Al := ⟨_, rfl⟩
  have HAL := Lib.hid hAl
  rw [hAl] at ST hAs HAB
  clear hAl
  obtain ⟨i5, p1, p2, p3, p4⟩ := facts5
  have P1 := Lib.hid p1; have P2 := Lib.hid p2; have P3 := Lib.hid p3; have P4 := Lib.hid p4
  clear p1 p2 p3 p4
  have T1 : Hid (1 = 1) := Lib.hid rfl
  go_enter Try.func3, Try.ntmps3
  go_wp2_with (first
    | (go_at_call 9; refine (sane_any _).mono ?_; rintro e w1 ⟨rfl, HB2⟩; have HB := Lib.hid HB2; clear HB2)
    | (go_at_call 11; have T0 := T1.out; clear T0 T1; refine (PM.out _).mono ?_; rintro e wm ⟨rfl, rfl⟩)
    | (go_at_call 10; refine (ST.out _).mono ?_; rintro e wk ⟨rfl, HK⟩; have HB2 := btrans2 HB.out HK; clear HB HK; have HB := Lib.hid HB2; clear HB2)
    | (go_at_call 11; refine (PL.out _).mono ?_; rintro e wm ⟨rfl, rfl⟩)
    | (go_at_call 12; refine (NW.out _ HB.out).mono ?_; rintro e wn ⟨rfl, H2⟩; have H := Lib.hid H2; clear H2)
    | (refine wpList_make_full wn rfl (.tmp 37) (.tmp 37) 31 rfl 0 5 i5 _ 1 Try.underlying31 P1.out P2.out P3.out .i64 .i64 _ _ N rfl rfl rfl rfl (by rw [P4.out]; omega) (by unfold maxLen; omega) (Nat.zero_le _) ?_; intro wg ho hg; have H2 := H.out.made ho hg; clear H ho hg; have H := Lib.hid H2; clear H2))
  clear NW PM PL ST P1 P2 P3 P4 HB
  have H0 := H
  clear H
  go_loopw [14, 15, 16] (fun en at_ i wr => ∃ (k a u s : Nat) (X : Wh) (F : Nat → Prop), i = .int .i64 k ∧ at_ = .int .i64 a ∧ k ≤ 400 ∧ Hid ((en = .bool false ∧ DeX (z + 1) N a u s X ∧ (100 ≤ k → k ≤ u + 100)) ∨ (en = .bool true ∧ N = a ∧ N = u ∧ DoneX N X)) ∧ Hid (Sf w wr wk.heap.size F X [(wn.heap.size, gotO N u)] (.slice none 0 0) [])) (fun _ _ i _ => 1500 - (intOf i).toNat)
  case atStart => exact ⟨0, 0, 0, 0, newX _, _, rfl, rfl, by decide, Lib.hid (.inl ⟨rfl, ⟨rfl, rfl, by omega, Nat.le_refl _, Nat.le_refl _, rfl, fun j => by simp [newX, gd], .inl rfl, fun e => by cases e⟩, fun h => absurd h (by decide)⟩), H0⟩
  case round =>
    obtain ⟨k, a, u, s, X, F, rfl, rfl, hk4, HD, H⟩ := hrel
    clear H0
    have hk15 : decide ((k : Int) < 1500) = true := decide_eq_true (by omega)
    rcases HD.out with ⟨rfl, hD, hku⟩ | ⟨rfl, rfl, rfl, hD⟩
    · clear HD
      have haN := hD.aN
      have hus := hD.us
      have hsa := hD.sa
      have hcap := hD.cap H.out
      have DN : Hid (∀ (wx : World) (F : Nat → Prop) (os : List (Nat × Obj)), Sf w wx wk.heap.size F X os (.slice none 0 0) [] → Calls Try.prog 13 #[.pointer (some ⟨wk.heap.size, 0, none⟩)] wx fun e w' => e = .returned (.bool false) ∧ wx = w') := Lib.hid (fun wx F os h => by have := sf_done h; rw [hD.notdone] at this; exact this)
      obtain ⟨rest, hE⟩ : ∃ r, Al.extract a N = r := ⟨_, rfl⟩
      have hr : bytesOf rest = (streamRow N N).drop a := by rw [← hE, bytesOf_extract, HAB.out, List.take_of_length_le (by simp [streamRow_length])]
      have hrs : rest.size ≤ 200 := by rw [← bytesOf_length, hr]; simp [streamRow_length]; omega
      have hW := hD.write hcap (by cases e : X.fin; exact .inl rfl; exact .inr (hD.fin e)) hr
      have hn := deN_cases (z + 1) N a u haN hcap (by omega) (by omega)
      have WR : Hid (∀ (wx : World) (F : Nat → Prop) (os : List (Nat × Obj)), Sf w wx wk.heap.size F X os (.slice none 0 0) [] → Calls Try.prog 14 #[.pointer (some ⟨wk.heap.size, 0, none⟩), .string rest] wx fun e w' => e = .returned (.int .i64 (deN (z + 1) N a u : Nat)) ∧ ∃ F' X', Hid (DeX (z + 1) N (a + deN (z + 1) N a u) u s X') ∧ Hid (Sf w w' wk.heap.size F' X' os (.slice none 0 0) [])) := Lib.hid (fun wx F os h => (sf_write h rest (by unfold maxLen; omega) (by have := (X.writeN_le rest).1; have := hD.Sl; omega)).mono (fun e w' hh => by
        rw [hW.1] at hh
        exact ⟨hh.1, hh.2.choose, _, Lib.hid hW.2, Lib.hid hh.2.choose_spec⟩))
      clear hW hr hrs hcap
      generalize deN (z + 1) N a u = n at *
      obtain ⟨hn1, hn2⟩ := hn
      have hmin : (if (N : Int) < (a : Int) then (N : Int) else (a : Int)) = (a : Int) := if_neg (by omega)
      have hmin2 : (if N < a then (N : Int) else (a : Int)) = (a : Int) := if_neg (by omega)
      clear hD
      go_upto_if 61 with (first
        | (go_at_call 13; refine (DN.out _ _ _ H.out).mono ?_; rintro e ws ⟨rfl, rfl⟩)
        | (go_at_call 14; refine (WR.out _ _ _ H.out).mono ?_; rintro e wv ⟨rfl, F2, X2, HD2, H2⟩; clear H; have H := H2; clear H2))
      go_cut [15] from 39 to 141 (fun s15 w' => s15 = .int .i64 ((a + n : Nat) : Int) ∧ ∃ F X, Hid (DeX (z + 1) N (a + n) u s X) ∧ Hid (u = a + n → X.fin = true) ∧ Hid (Sf w w' wk.heap.size F X [(wn.heap.size, gotO N u)] (.slice none 0 0) []))
      case first =>
        by_cases hN2 : a + n = N
        · have hb : (((a : Int) + (n : Int)) == (N : Int)) = true := by rw [beq_iff_eq]; omega
          have HN2 := Lib.hid hN2
          clear hN2
          go_wp2_with (go_at_call 15; refine (sf_finish H.out).mono ?_; rintro e wf ⟨rfl, F3, H2⟩; clear H; have H := Lib.hid H2; clear H2)
          go_meet
          exact ⟨by simp, F3, _, Lib.hid (by have := HD2.out; rw [HN2.out] at this ⊢; exact this.finish), Lib.hid (fun _ => rfl), H⟩
        · have hb : (((a : Int) + (n : Int)) == (N : Int)) = false := by rw [beq_eq_false_iff_ne]; omega
          have hn3 := hn2 hN2
          go_wp2
          go_meet
          exact ⟨by simp, F2, X2, HD2, Lib.hid (fun h => by omega), H⟩
      case rest =>
      obtain ⟨rfl, F3, X3, HD3, HF3, H⟩ := hcut
      clear hmin hmin2 WR DN hE
      generalize a + n = a2 at *
      go_upto_if 66 with (fail)
      go_cut [17] from 39 to 141 (fun s17 w' => (∃ sz : Nat, s17 = .int .i64 sz ∧ 1 ≤ sz ∧ sz ≤ 30) ∧ w' = wc)
      case first =>
        by_cases h0 : zs.length = 0
        · have hb : decide (0 < zs.length) = false := decide_eq_false (by omega)
          go_wp2
          go_meet
          exact ⟨⟨7, rfl, by decide, by decide⟩, rfl⟩
        · have hb : decide (0 < zs.length) = true := decide_eq_true (by omega)
          obtain ⟨j, hj⟩ : ∃ j, k % zs.length = j := ⟨_, rfl⟩
          have hjl : j < zs.length := by rw [← hj]; exact Nat.mod_lt _ (by omega)
          have hm1 : (k : Int) % (zs.length : Int) = (j : Int) := by rw [← hj]; rfl
          have hm2 : (k : Int).tmod (zs.length : Int) = (j : Int) := by rw [Int.tmod_eq_emod_of_nonneg (by omega)]; exact hm1
          have hm3 : IntKind.i64.wrap (j : Int) = (j : Int) := IntWalk.i64_in _ (by omega)
          have hxw := bounds_i64 (HRZ.out (zs[j]?.getD 0) (by simp [hjl]))
          obtain ⟨b4, off4, hz4, hx4⟩ : ∃ b4 off4, a0 = some ⟨b4, off4, none⟩ ∧ wc.cell? ⟨b4, off4 + j, none⟩ = some (.int .i64 (zs[j]?.getD 0)) ∧ zs.length ≤ cap0 ∧ cap0 ≤ maxLen := by
            rcases HZ.out with ⟨_, _, e, _, h0⟩ | ⟨b4, off4, c4, e, h0, hl4, hc4, hx4⟩
            · rw [h0] at hjl; simp at hjl
            · simp only [Value.slice.injEq] at e
              obtain ⟨e1, _, rfl⟩ := e
              exact ⟨b4, off4, e1, (H.out.below.cell (p := ⟨b4, off4 + j, none⟩) (World.block_lt_of_cell? _ _ (hx4 j hjl))).trans (hx4 j hjl), hl4, hc4⟩
          obtain ⟨hx4, hl4, hc4⟩ := hx4
          unfold maxLen at hc4
          subst hz4
          generalize zs[j]?.getD 0 = x at *
          have PX := Lib.hid (fun (wx : World) => pick_any x 30 wx hxw.1 hxw.2 (by decide) (by decide))
          have rx := pickF_range x 30 (by decide)
          generalize pickF x 30 = c at *
          obtain ⟨c, rfl⟩ : ∃ c' : Nat, c = c' := ⟨c.toNat, by omega⟩
          clear hxw hj
          go_wp2_with (go_at_call 11; refine (PX.out _).mono ?_; rintro e wm ⟨rfl, rfl⟩)
          go_meet
          exact ⟨⟨c + 1, by simp; omega, by omega, by omega⟩, rfl⟩
      case rest =>
      obtain ⟨⟨sz, rfl, hz1, hz2⟩, rfl⟩ := hcut
      obtain ⟨str, fin, hR, hsz, hby, hf, hem, hO⟩ := HD3.out.frame hz1 (by omega) HF3.out H.out.ok
      have hp := HD3.out.next hz1 (by omega) HF3.out
      have hle := deT_le HD3.out.us HD3.out.sa sz
      have NX : Hid (∀ (wx : World) (F : Nat → Prop) (os : List (Nat × Obj)), Sf w wx wk.heap.size F X3 os (.slice none 0 0) [] → Calls Try.prog 16 #[.pointer (some ⟨wk.heap.size, 0, none⟩), .int .i64 sz, .int .i64 100] wx fun e w' => ∃ V, Hid (V = .agg (mkFr 8 u str fin).cells) ∧ e = .returned (.tuple #[V, .bool true]) ∧ ∃ F', Sf w w' wk.heap.size F' (X3.nextX (some (u, deT a2 u s sz))) os (.slice none 0 0) []) := Lib.hid (fun wx F os h => (sf_next h sz 100).mono (fun e w' hh => by rw [hp, hR] at hh; exact ⟨_, Lib.hid rfl, hh⟩))
      have HL := Lib.hid (fun h : k < 100 => HD3.out.lost hsz hf hO)
      have HA := Lib.hid (fun h : fin = false => HD3.out.acked hsz hf hO h)
      have HDn := Lib.hid (fun h : fin = true => HD3.out.done hsz hf hO h)
      have ER := Lib.hid hO.err
      have ON : Hid ((mkFr 8 u str fin).cells.all (·.oneCell') = true) := Lib.hid (one35 _ _ _ _)
      have FV : Hid ((mkFr 8 u str fin).off = (u : Int) ∧ (mkFr 8 u str fin).s = str ∧ (mkFr 8 u str fin).fin = fin) := Lib.hid ⟨rfl, rfl, rfl⟩
      have HBY := Lib.hid hby
      have haN2 := HD3.out.aN
      have HEM := Lib.hid hem
      clear hR hp hf hO HD3 HF3 hby hem
      generalize X3.nextX (some (u, deT a2 u s sz)) = X4 at *
      generalize deT a2 u s sz = tt at *
      generalize mkFr 8 (u : Int) str fin = f at *
      go_upto_region 21 with (first
        | (go_at_call 16; refine (NX.out _ _ _ H.out).mono ?_; rintro e wx ⟨V, HV, rfl, F4, H2⟩; clear H; have H := Lib.hid H2; clear H2)
        | (refine wpList_store_new rfl _ _ rfl f ON.out _ (by rfl) (by rfl) (by exact HV.out) ?_; have HNE := Lib.hid (heap_lt (H.out.far (wn.heap.size, gotO N u) (by simp)).1); have H2 := H.out.frame f; clear H HV; have H := Lib.hid H2; clear H2; have DF := Boxed.of (H.out.fr (List.mem_cons_self ..)); obtain ⟨f0, f2, f3, f4⟩ := DF; rw [FV.out.1] at f2; rw [FV.out.2.1] at f3; rw [FV.out.2.2] at f4; generalize wx.alloc (.cells f.cells 35) = wq at *))
      clear NX f0
      go_cut [97] from 39 to 141 (fun s97 w' => (∃ lb : Bool, s97 = .bool lb ∧ (lb = true → k < 100)) ∧ w' = wq)
      case first =>
        by_cases c1 : k < len1
        · have d1 : decide (k < len1) = true := decide_eq_true c1
          by_cases c2 : k < 100
          · obtain ⟨b6, off6, hz6, x, hx6, hc6⟩ : ∃ b6 off6, a1 = some ⟨b6, off6, none⟩ ∧ ∃ x, wq.cell? ⟨b6, off6 + k, none⟩ = some (.bool x) ∧ cap1 ≤ maxLen := by
              rcases HBL.out with h | ⟨b6, off6, e, hc, hlt, hx⟩
              · omega
              · exact ⟨b6, off6, e, _, (H.out.below.cell (p := ⟨b6, off6 + k, none⟩) hlt).trans (hx k c1), hc⟩
            unfold maxLen at hc6
            subst hz6
            have d2 : decide ((k : Int) < 100) = true := decide_eq_true (by omega)
            go_wp2
            go_meet
            exact ⟨⟨x, rfl, fun _ => c2⟩, rfl⟩
          · have d2 : decide ((k : Int) < 100) = false := decide_eq_false (by omega)
            go_wp2
            go_meet
            exact ⟨⟨false, rfl, fun h => by cases h⟩, rfl⟩
        · have d1 : decide (k < len1) = false := decide_eq_false c1
          go_wp2
          go_meet
          exact ⟨⟨false, rfl, fun h => by cases h⟩, rfl⟩
      case rest =>
      obtain ⟨⟨lb, rfl, hlb2⟩, rfl⟩ := hcut
      cases lb
      · clear HL hlb2
        have HG := H
        clear H f2 f3 f4
        obtain ⟨wo, hwo⟩ : ∃ wo : World, wo = wr := ⟨_, rfl⟩
        subst hwo
        go_wp2
        go_loopw [20] (fun i wr2 => ∃ qq : Nat, qq ≤ str.size ∧ i = .int .i64 qq ∧ Hid (Sf w wr2 wk.heap.size F4 X4 [(wx.heap.size, frO f), (wn.heap.size, gotO N (u + qq))] (.slice none 0 0) [])) (fun i _ => str.size - (intOf i).toNat)
        case atStart => exact ⟨0, Nat.zero_le _, rfl, HG⟩
        case round =>
          obtain ⟨qq, hq, rfl, H⟩ := hrel
          clear HG
          obtain ⟨f0, f2, f3, f4⟩ := Boxed.of (H.out.fr (f := f) (g := wx.heap.size) (List.mem_cons_self ..))
          rw [FV.out.1] at f2
          rw [FV.out.2.1] at f3
          rw [FV.out.2.2] at f4
          clear f0
          by_cases hlt : qq < str.size
          · have hqN : u + qq < N := by omega
            have hgb := (H.out.far (wn.heap.size, gotO N (u + qq)) (by simp)).1
            have hc1 : wr.cell? ⟨wn.heap.size, u + qq, none⟩ = some (.int .u8 (gd (streamRow N (u + qq)) (u + qq))) := by
              rw [cell_whole hgb]
              simp [gd, streamRow, hqN]
            have hc2 : wr.frozen? ⟨wn.heap.size, u + qq, none⟩ = false := frozen_whole hgb _
            have HV : Hid (((str[qq]'hlt).toNat : Int) = streamAt (u + qq)) := Lib.hid (by rw [← HBY.out qq hlt]; exact (bytesOf_get str qq hlt).symm)
            have HQN := Lib.hid hqN
            have d0 : decide (qq < str.size) = true := decide_eq_true hlt
            have d1 : decide ((u : Int) + (qq : Int) < 0) = false := decide_eq_false (by omega)
            have d2 : decide ((N : Int) ≤ (u : Int) + (qq : Int)) = false := decide_eq_false (by omega)
            go_wp2
            have k1 : IntKind.i64.wrap ((u : Int) + (qq : Int)) = (u : Int) + (qq : Int) := IntWalk.i64_in _ (by omega)
            have k2 : ((u : Int) + (qq : Int)).toNat = u + qq := by omega
            have k3 : 0 ≤ (u : Int) + (qq : Int) := by omega
            have k4 : (u : Int) + (qq : Int) < (N : Int) := by omega
            have k5 : (0 : Int) ≤ (qq : Int) := by omega
            have k6 : (qq : Int) < (str.size : Int) := by omega
            go_still_tail 10, (by kernel_rfl)
            repeat still_step
            go_wp2
            go_roundw
            case rel => exact ⟨qq + 1, by omega, by simp, Lib.hid (H.out.got HNE.out HQN.out HV.out)⟩
            case measure => simp [intOf]; omega
          · obtain rfl : qq = str.size := by omega
            have d0 : decide (str.size < str.size) = false := decide_eq_false (by omega)
            have AC : Hid (∀ (wx : World) (F : Nat → Prop) (os : List (Nat × Obj)), Sf w wx wk.heap.size F X4 os (.slice none 0 0) [] → Calls Try.prog 18 #[.pointer (some ⟨wk.heap.size, 0, none⟩), f.val] wx fun e w' => e = .returned (.int .i64 0) ∧ ∃ F', Sf w w' wk.heap.size F' (X4.acked f) os (.slice none 0 0) []) := Lib.hid (fun wx F os h => by have := sf_acked h f; rw [ER.out] at this; exact this)
            have HTT : Hid (u + str.size = tt) := Lib.hid (by omega)
            have HSZ := Lib.hid hsz
            clear hsz
            go_wp2_with (first
              | (refine wpList_load_own rfl _ rfl f wx.heap.size rfl (H.out.fr (by simp)) ?_)
              | (go_at_call 18; refine (AC.out _ _ _ H.out).mono ?_; rintro e wl ⟨rfl, F5, H2⟩; clear H; have H := Lib.hid H2; clear H2))
            go_roundw
            case rel =>
              have H3 := H.out.sub (os' := [(wn.heap.size, gotO N (u + str.size))]) (by simp)
              rw [HTT.out] at H3
              cases hfn : fin
              · have hd := HA.out hfn
                have : tt ≠ u := fun e => by have := HEM.out e; rw [hfn] at this; cases this
                exact ⟨k + 1, a2, tt, max s tt, _, F5, by simp, rfl, by omega, Lib.hid (.inl ⟨rfl, hd, fun h => by omega⟩), Lib.hid H3⟩
              · obtain ⟨e1, e2, hd⟩ := HDn.out hfn
                exact ⟨k + 1, a2, tt, max s tt, _, F5, by simp, rfl, by omega, Lib.hid (.inr ⟨rfl, e2.symm, e1.symm, hd⟩), Lib.hid H3⟩
            case measure => simp [intOf]; omega
      · have hk100 : k < 100 := hlb2 rfl
        clear hlb2
        have LS : Hid (∀ (wx : World) (F : Nat → Prop) (os : List (Nat × Obj)), Sf w wx wk.heap.size F X4 os (.slice none 0 0) [] → Calls Try.prog 17 #[.pointer (some ⟨wk.heap.size, 0, none⟩), f.val] wx fun e w' => e = .returned (.int .i64 0) ∧ ∃ F', Sf w w' wk.heap.size F' (X4.lost f) os (.slice none 0 0) []) := Lib.hid (fun wx F os h => by have := sf_lost h f; rw [ER.out] at this; exact this)
        go_wp2_with (first
          | (refine wpList_load_own rfl _ rfl f wx.heap.size rfl (H.out.fr (by simp)) ?_)
          | (go_at_call 17; refine (LS.out _ _ _ H.out).mono ?_; rintro e wl ⟨rfl, F5, H2⟩; clear H; have H := Lib.hid H2; clear H2))
        go_roundw
        case rel => exact ⟨k + 1, a2, u, max s tt, _, F5, by simp, rfl, by omega, Lib.hid (.inl ⟨rfl, HL.out hk100, fun h => by omega⟩), Lib.hid (H.out.sub (by simp))⟩
        case measure => simp [intOf]; omega
    · clear HD
      have DN : Hid (∀ (wx : World) (F : Nat → Prop) (os : List (Nat × Obj)), Sf w wx wk.heap.size F X os (.slice none 0 0) [] → Calls Try.prog 13 #[.pointer (some ⟨wk.heap.size, 0, none⟩)] wx fun e w' => e = .returned (.bool true) ∧ wx = w') := Lib.hid (fun wx F os h => by have := sf_done h; rw [hD.done] at this; exact this)
      have NX : Hid (∀ (wx : World) (F : Nat → Prop) (os : List (Nat × Obj)), Sf w wx wk.heap.size F X os (.slice none 0 0) [] → Calls Try.prog 16 #[.pointer (some ⟨wk.heap.size, 0, none⟩), .int .i64 10, .int .i64 10] wx fun e w' => ∃ V, Hid (V = .agg fr0.cells) ∧ e = .returned (.tuple #[V, .bool false]) ∧ ∃ F', Sf w w' wk.heap.size F' X os (.slice none 0 0) []) := Lib.hid (fun wx F os h => (sf_next h 10 10).mono (fun e w' hh => by rw [hD.next] at hh; exact ⟨_, Lib.hid rfl, hh⟩))
      have SP : Hid (∀ (wx : World) (F : Nat → Prop) (os : List (Nat × Obj)), Sf w wx wk.heap.size F X os (.slice none 0 0) [] → Calls Try.prog 19 #[.pointer (some ⟨wk.heap.size, 0, none⟩)] wx fun e w' => e = .returned (.int .i64 0) ∧ ∃ F', Sf w w' wk.heap.size F' X os (.slice none 0 0) []) := Lib.hid (fun wx F os h => (sf_space h).mono (fun e w' hh => by obtain ⟨he, n, rfl⟩ := hh; rw [hD.space] at he; exact ⟨he, _, h.drewN n⟩))
      have OZ : Hid (fr0.cells.all (·.oneCell') = true) := Lib.hid (one35 _ _ _ _)
      clear hD
      go_wp2_with (first
        | (go_at_call 13; refine (DN.out _ _ _ H.out).mono ?_; rintro e ws ⟨rfl, rfl⟩)
        | (go_at_call 16; refine (NX.out _ _ _ H.out).mono ?_; rintro e wx ⟨V, HV, rfl, F2, H2⟩; clear H; have H := Lib.hid H2; clear H2)
        | (refine wpList_store_new rfl _ _ rfl fr0 OZ.out _ (by rfl) (by rfl) (by exact HV.out) ?_; have H2 := H.out.frame fr0; clear H HV; have H := Lib.hid H2; clear H2; have hcv := conv_got (w := wx.alloc (.cells fr0.cells 35)) (g := wn.heap.size) (N := N) (H.out.far (wn.heap.size, gotO N N) (by simp)).1; rw [HAL.out] at hcv; generalize wx.alloc (.cells fr0.cells 35) = wq at *)
        | (go_at_call 19; refine (SP.out _ _ _ H.out).mono ?_; rintro e wv ⟨rfl, F3, H2⟩; clear H; have H := Lib.hid H2; clear H2))
      go_ret
      exact ⟨rfl, H.out.below⟩
theorem cells3 : Try.prog.cellsOf 3 = 1 := by kernel_rfl
theorem cells4 : Try.prog.cellsOf 4 = 1 := by kernel_rfl
theorem main {H : Type} {enc : TypeId × Value → H} (W : World) (base0 : Nat) (v0 : Value) (d0 : DataW H) (p0 : List MemPlace) (hv0 : Value.okWide Try.prog W .any base0 3 v0) (h0 : DataW.Trod enc Try.prog W 0 (fun _ => true) true 3 v0 d0 p0)
    (base1 : Nat) (v1 : Value) (d1 : DataW H) (p1 : List MemPlace) (hv1 : Value.okWide Try.prog W .any base1 3 v1) (h1 : DataW.Trod enc Try.prog W 0 (fun _ => true) true 3 v1 d1 p1)
    (base2 : Nat) (v2 : Value) (d2 : DataW H) (p2 : List MemPlace) (hv2 : Value.okWide Try.prog W .any base2 22 v2) (h2 : DataW.Trod enc Try.prog W 0 (fun _ => true) true 22 v2 d2 p2)
    (base3 : Nat) (v3 : Value) (d3 : DataW H) (p3 : List MemPlace) (hv3 : Value.okWide Try.prog W .any base3 23 v3) (h3 : DataW.Trod enc Try.prog W 0 (fun _ => true) true 23 v3 d3 p3) :
    Calls Try.prog 3 #[v0, v1, v2, v3] W fun e w' => e = .returned (.bool true) ∧ Below W.heap.size W w' := by
  obtain ⟨a0, rfl, _, _, w0⟩ := open_int Try.underlying3 hv0 h0
  obtain ⟨a1, rfl, _, _, w1⟩ := open_int Try.underlying3 hv1 h1
  obtain ⟨zs, hz, hmz, hrz⟩ := ints_at Try.underlying22 Try.underlying3 cells3 hv2 h2
  obtain ⟨a2, cap2, rfl, _⟩ := hz.form
  obtain ⟨a3, len3, cap3, rfl, hl3, hb3⟩ := bools_at Try.underlying23 Try.underlying4 cells4 hv3 h3
  exact walk a0 a1 zs a2 cap2 a3 len3 cap3 W (bounds_i64 w0) (bounds_i64 w1) hz hmz hrz hl3 hb3
end Go.Proofs.Ytmjekepiplibkaa.sendBufDelivers
