/- Texts Rwo Rwq R S Rwr Rws Rwt Rwu of this claim, one behind the other. -/
import Derived.Test.YtpfkeohaaeiaaaaDoorWm11
import Derived.Test.YtpfkeohaaeiaaaaDoorWm9
import Derived.Deep.WholeRow
import Derived.Test.YtpfkeohaaeiaaaaDoorWm10
/- SendBufWithinLimits: the contracts. -/
namespace Go.Proofs.YtpfkeohaaeiaaaaDoor
open Go.RowKit
section
variable {W w w' : World} {b bi g1 g2 br bs : Nat} {F F' : Nat → Prop} {X X' : Wh} {R R' : rea.Rb} {rm wi hi rd sm us : Nat} {os : List (Nat × Obj)} {v v' : Value} {l l' : List Fr}
theorem wd_sent {n : Nat} (h : Wd W w b bi g1 g2 br bs F X R rm wi hi rd sm us os v l) (hn : X.sent = n) : Calls Tryd.prog 13 #[.pointer (some ⟨b, 0, none⟩)] w fun e w' => e = .returned (.int .i64 n) ∧ w = w' := by
  have := sf_sent h.sf
  rw [hn] at this; exact this
theorem wd_avail (h : Wd W w b bi g1 g2 br bs F X R rm wi hi rd sm us os v l) (h1 : us ≤ sm) (h2 : sm ≤ 1000000) {c : Nat} (hc : us + c = sm) :
    Calls Tryd.prog 15 #[.pointer (some ⟨bs, 0, none⟩)] w fun e w' => e = .returned (.int .i64 c) ∧ Wd W w' b bi g1 g2 br bs F X R rm wi hi rd sm us os v l :=
  (flo.avail_any bs sm us 0 w h.sn (by omega) (by omega) (by omega)).mono fun e w' hh => by
    obtain ⟨he, n, rfl⟩ := hh
    exact ⟨by rw [he]; congr 2; omega, h.drewN n⟩
theorem wd_use (h : Wd W w b bi g1 g2 br bs F X R rm wi hi rd sm us os v l) (h1 : us ≤ sm) (h2 : sm ≤ 1000000) {n t : Nat} (hn : us + n = t) (ht : t ≤ sm) :
    Calls Tryd.prog 16 #[.pointer (some ⟨bs, 0, none⟩), .int .i64 n] w fun e w' => e = .returned (.int .i64 0) ∧ Wd W w' b bi g1 g2 br bs F X R rm wi hi rd sm t os v l :=
  (flo.use_ok bs sm us 0 n w h.sn (by omega) (by omega) (by omega) (by omega) (by omega)).mono fun e w' hh =>
    ⟨hh.1, h.turnS (by have := hh.2; rw [show (us : Int) + (n : Int) = (t : Int) by omega] at this; exact this)⟩
theorem wd_recv (h : Wd W w b bi g1 g2 br bs F X R rm wi hi rd sm us os v l) {n : Nat} (h1 : n ≤ rm) {hi2 : Nat} (h2 : max hi n = hi2) :
    Calls Tryd.prog 18 #[.pointer (some ⟨br, 0, none⟩), .int .i64 n] w fun e w' => e = .returned (.int .i64 0) ∧ Wd W w' b bi g1 g2 br bs F X R rm wi hi2 rd sm us os v l :=
  (flo.receive_ok br rm wi hi rd n w h.rv (by omega) (by omega)).mono fun e w' hh =>
    ⟨hh.1, h.turnR (by have := hh.2; rw [show max (hi : Int) (n : Int) = (hi2 : Int) by omega] at this; exact this)⟩
theorem wd_put (h : Wd W w b bi g1 g2 br bs F X R rm wi hi rd sm us os v l) {off : Nat} {s : ByteArray} {fin : Bool} {a0 a1 a2 a3 : Addr} (hE : rea.Errs W a0 a1 a2 a3) (hk : rea.PutOk R off s fin) :
    Calls Tryd.prog 19 #[.pointer (some ⟨bi, 0, none⟩), .int .i64 off, .string s, .bool fin] w fun e w' => e = .returned (.int .i64 0) ∧ Wd W w' b bi g1 g2 br bs F X (R.put off s fin) rm wi hi rd sm us os v l :=
  (rea.Put_ok bi g1 g2 R off s fin a0 a1 a2 a3 w h.rb (hE.below h.sf.below) hk).mono fun _e _w' hh => ⟨hh.1, h.turnB hh.2.1 hh.2.2⟩
theorem wd_read (h : Wd W w b bi g1 g2 br bs F X R rm wi hi rd sm us os v l) {n m : Nat} (hn : n ≤ 1000) (ha : R.at_ ≤ 1000000) (hm : m = min n (rea.readyF R.hs)) :
    Calls Tryd.prog 20 #[.pointer (some ⟨bi, 0, none⟩), .int .i64 n] w fun e w' => e = .returned (.tuple #[.string (strOfNums (R.bs.take m)), .bool (R.kn && decide (((R.at_ + m : Nat) : Int) = R.fin))]) ∧ Wd W w' b bi g1 g2 br bs F X { R with at_ := R.at_ + m, bs := rea.takeB m R.bs, hs := rea.takeH m R.hs } rm wi hi rd sm us os v l :=
  (rea.Read_any bi g1 g2 R n w h.rb hn (by omega) m hm).mono fun e w' hh => ⟨hh.1, h.turnB hh.2.1 hh.2.2⟩
theorem wd_readR (h : Wd W w b bi g1 g2 br bs F X R rm wi hi rd sm us os v l) (h1 : rd ≤ hi) (h2 : hi ≤ 1000000) {n t : Nat} (hn : rd + n = t) (ht : t ≤ hi) :
    Calls Tryd.prog 21 #[.pointer (some ⟨br, 0, none⟩), .int .i64 n] w fun e w' => e = .returned (.tuple #[]) ∧ Wd W w' b bi g1 g2 br bs F X R rm wi hi t sm us os v l :=
  (flo.readR_any br rm wi hi rd n w h.rv (by omega) (by omega) (by omega) (by omega) (by omega)).mono fun e w' hh =>
    ⟨hh.1, h.turnR (by have := hh.2; rw [show (rd : Int) + min (n : Int) ((hi : Int) - (rd : Int)) = (t : Int) by omega] at this; exact this)⟩
/-- the limit that Update leaves -/
def updN (rm wi rd : Nat) : Nat := if wi / 2 < rm - rd then rm else max rm (rd + wi)
theorem wd_upd (h : Wd W w b bi g1 g2 br bs F X R rm wi hi rd sm us os v l) (h1 : rd ≤ rm) (h2 : rm ≤ 1000000) (h3 : wi ≤ 1000000) :
    Calls Tryd.prog 22 #[.pointer (some ⟨br, 0, none⟩)] w fun e w' => (∃ (x : Int) (up : Bool), e = .returned (.tuple #[.int .i64 x, .bool up]) ∧ (up = true → x = (updN rm wi rd : Nat))) ∧ Wd W w' b bi g1 g2 br bs F X R (updN rm wi rd) wi hi rd sm us os v l := by
  unfold updN
  by_cases hc : wi / 2 < rm - rd
  · rw [if_pos hc]
    exact (flo.update_no br rm wi hi rd w h.rv (by omega) (by omega) (by omega) (by omega) (by omega) (by omega)).mono fun e w' hh => by
      obtain ⟨he, n, rfl⟩ := hh
      exact ⟨⟨0, false, he, fun h => by cases h⟩, h.drewN n⟩
  · rw [if_neg hc]
    exact (flo.update_yes br rm wi hi rd w h.rv (by omega) (by omega) (by omega) (by omega) (by omega) (by omega)).mono fun e w' hh => by
      obtain ⟨⟨x, up, he, h3, h4⟩, hB⟩ := hh
      have e1 : max (rm : Int) ((rd : Int) + (wi : Int)) = ((max rm (rd + wi) : Nat) : Int) := by omega
      rw [e1] at hB h3
      exact ⟨⟨x, up, he, h3⟩, h.turnR hB⟩
theorem wd_raise (h : Wd W w b bi g1 g2 br bs F X R rm wi hi rd sm us os v l) {n t : Nat} (hn : n ≤ 1000000) (ht : max sm n = t) :
    Calls Tryd.prog 23 #[.pointer (some ⟨bs, 0, none⟩), .int .i64 n] w fun e w' => e = .returned (.tuple #[]) ∧ Wd W w' b bi g1 g2 br bs F X R rm wi hi rd t us os v l :=
  (flo.raiseS_any bs sm us 0 n w h.sn (by omega)).mono fun e w' hh =>
    ⟨hh.1, h.turnS (by have := hh.2; rw [show max (sm : Int) (n : Int) = (t : Int) by omega] at this; exact this)⟩
theorem wd_limit (h : Wd W w b bi g1 g2 br bs F X R rm wi hi rd sm us os v l) : Calls Tryd.prog 24 #[.pointer (some ⟨br, 0, none⟩)] w fun e w' => e = .returned (.int .i64 rm) ∧ w = w' :=
  flo.limit_any br rm wi hi rd w h.rv
end
end Go.Proofs.YtpfkeohaaeiaaaaDoor
/- SendBufWithinLimits: the plain laws of a round. -/
namespace Go.Proofs.YtpfkeohaaeiaaaaDoor
open Go.RowKit
theorem bytes_same (s : ByteArray) : rea.bytesOf s = bytesOf s := rfl
/-- the state at a round's head -/
structure Wq (N w k s a sm rm : Nat) (R : rea.Rb) (hi : Nat) (l : List Fr) : Prop where
  sw : rea.Sw N s l
  rcv : rea.Rcv streamAt N w s a R.bs R.hs hi R.kn
  at_ : R.at_ = a
  hiR : R.hi = hi
  finR : R.kn = true → R.fin = N
  s1 : s ≤ sm
  s2 : sm ≤ rm
  s3 : rm ≤ a + w
  s4 : a + 1 ≤ rm
  few : l.length ≤ k
  opn : a < N ∨ N = 0
  z0 : N = 0 → k = 0
  eq : 61 ≤ k → sm = rm
  pr : k ≤ 61 + a
theorem Wq.start (N w : Nat) (hw : 1 ≤ w) : Wq N w 0 0 0 w w (rea.newRb w) 0 [] :=
  ⟨rea.Sw.start N, rea.Rcv.start streamAt N w, rfl, rfl, (fun h => by cases h), Nat.zero_le _, Nat.le_refl _, by omega, by omega, Nat.le_refl _, by omega, fun _ => rfl, fun h => absurd h (by decide), by omega⟩
theorem wq_put {N w t a hi : Nat} {R : rea.Rb} {l : List Fr} (hrc : rea.Rcv streamAt N w t a R.bs R.hs hi R.kn) (hat : R.at_ = a) (hhi : R.hi = hi) (hfin : R.kn = true → R.fin = N) (hsw : rea.Sw N t l) (hN : N ≤ 300) (ha : a ≤ N) (htr : t ≤ a + w) {y : Fr} (hy : y ∈ l) :
    ∃ (u : Nat) (str : ByteArray) (fin : Bool), y = mkFr 8 u str fin ∧ u + str.size ≤ t ∧ rea.PutOk R u str fin ∧ rea.Rcv streamAt N w t a (R.put u str fin).bs (R.put u str fin).hs (max hi (u + str.size)) (R.put u str fin).kn ∧
      (R.put u str fin).at_ = a ∧ (R.put u str fin).hi = (max hi (u + str.size) : Nat) ∧ ((R.put u str fin).kn = true → (R.put u str fin).fin = N) ∧ (N = 0 → (R.put u str fin).kn = true) ∧ (0 < w → u ≤ a → a < u + str.size → 1 ≤ rea.readyF (R.put u str fin).hs) := by
  obtain ⟨u, str, rfl, h1, h2⟩ := hsw.each y hy
  have hsN := hsw.sN
  have hl : (rea.bytesOf str).length = str.size := rea.bytesOf_length str
  have hb : ∀ k, k < (rea.bytesOf str).length → rea.gd (rea.bytesOf str) k = streamAt (u + k) := fun k hk => h2 k (by rw [← hl]; exact hk)
  have hp := hrc.put (off := u) (str := rea.bytesOf str) (fin := decide (u + str.size = N)) hb (by rw [hl]; exact h1) hsN (by rw [hl])
  rw [hl] at hp
  have his := hrc.his
  refine ⟨u, str, _, rfl, h1, ⟨by omega, by omega, ?_, fun hf => ?_, ?_, ?_, by omega⟩, ?_, hat, ?_, fun hk => ?_, fun h0 => ?_, fun hw h3 h4 => ?_⟩
  · rw [hat]; exact hrc.agrees hb
  · rw [decide_eq_true_eq] at hf; omega
  · cases hk : R.kn
    · exact .inl rfl
    · refine .inr ?_
      rw [hfin hk]
      by_cases e : u + str.size = N
      · exact .inl (by omega)
      · exact .inr ⟨by omega, decide_eq_false e⟩
  · rw [hrc.bl, hat]; omega
  · show rea.Rcv streamAt N w t a (rea.putB R.at_ u (rea.bytesOf str) str.size R.bs) (rea.putH R.at_ u str.size R.hs) (max hi (u + str.size)) (R.kn || decide (u + str.size = N))
    rw [hat]; exact hp
  · show max R.hi ((u : Int) + str.size) = _
    rw [hhi]; omega
  · show (if decide (u + str.size = N) = true then (u : Int) + str.size else R.fin) = N
    by_cases e : u + str.size = N
    · rw [if_pos (decide_eq_true e)]; omega
    · rw [if_neg (by rw [decide_eq_false e]; decide)]
      refine hfin ?_
      have : (R.kn || decide (u + str.size = N)) = true := hk
      rw [decide_eq_false e, Bool.or_false] at this; exact this
  · show (R.kn || decide (u + str.size = N)) = true
    rw [decide_eq_true (by omega), Bool.or_true]
  · show 1 ≤ rea.readyF (rea.putH R.at_ u str.size R.hs)
    have := hrc.put_ready (off := u) (str := rea.bytesOf str) h3 (by rw [hl]; exact h4) hw
    rw [hl] at this
    rw [hat]; exact this
/-- what is read -/
theorem wq_read {N w t a hi m : Nat} {R : rea.Rb} {Al : ByteArray} (hA : bytesOf Al = streamRow N N) (hrc : rea.Rcv streamAt N w t a R.bs R.hs hi R.kn) (hfin : R.kn = true → R.fin = N) (hat : R.at_ = a) (htN : t ≤ N) (hm : m ≤ rea.readyF R.hs) (h0 : N = 0 → R.kn = true) :
    strOfNums (R.bs.take m) = Al.extract a (a + m) ∧ rea.Rcv streamAt N w t (a + m) (rea.takeB m R.bs) (rea.takeH m R.hs) hi R.kn ∧ a + m ≤ hi ∧ ((R.kn && decide (((R.at_ + m : Nat) : Int) = R.fin)) = true → a + m = N) ∧ ((R.kn && decide (((R.at_ + m : Nat) : Int) = R.fin)) = false → a + m < N) := by
  have hr := hrc.read hm
  have hro := hrc.room hm
  have hhs := hrc.his
  refine ⟨?_, hr, hro.1, fun h => ?_, fun h => ?_⟩
  · have hbt : ∀ k, k < m → gd (R.bs.take m) k = streamAt (a + k) := fun k hk => hrc.bytes hm k hk
    have hlen : (R.bs.take m).length = m := by rw [List.length_take, hrc.bl]; omega
    have e : R.bs.take m = ((streamRow N N).drop a).take m := by
      refine ext_gd (by rw [hlen, List.length_take, List.length_drop, streamRow_length]; omega) (fun j hj => ?_)
      rw [hlen] at hj
      rw [hbt j hj, gd_take _ _ _ hj, gd_drop, gd_streamRow (by omega)]
    apply bytesOf_inj
    rw [bytesOf_extract, hA, e, show a + m - a = m by omega]
    exact bytes_str _ (fun x hx => streamRow_byte N N x (List.mem_of_mem_drop (List.mem_of_mem_take hx)))
  · rw [Bool.and_eq_true, decide_eq_true_eq] at h
    have := hfin h.1
    rw [hat] at h; omega
  · have hle : a + m ≤ N := by omega
    rcases Nat.lt_or_ge (a + m) N with h1 | h1
    · exact h1
    · exfalso
      have hk : R.kn = true := by
        rcases Nat.eq_zero_or_pos N with e | e
        · exact h0 e
        · exact hr.all (by omega) e
      rw [hk, hfin hk, hat, decide_eq_true (by omega)] at h
      cases h
theorem upd_facts {rm wi rd a : Nat} (h1 : a ≤ rd) (h2 : rm ≤ a + wi) (h3 : rd ≤ rm) (hw : 1 ≤ wi) : rm ≤ updN rm wi rd ∧ updN rm wi rd ≤ rd + wi ∧ rd + 1 ≤ updN rm wi rd := by
  unfold updN
  split <;> omega
/-- text: the next piece is put to what was read -/
theorem extract_append {A : ByteArray} {a m : Nat} : A.extract 0 a ++ A.extract a (a + m) = A.extract 0 (a + m) := by
  apply bytesOf_inj
  rw [bytesOf_append, bytesOf_extract, bytesOf_extract, bytesOf_extract]
  simp only [List.drop_zero, Nat.sub_zero, Nat.add_sub_cancel_left]
  rw [← List.take_add]
end Go.Proofs.YtpfkeohaaeiaaaaDoor
namespace Go.Proofs.YtpfkeohaaeiaaaaDoor
open Go.RowKit
set_option maxRecDepth 100000
def S1 : Bf := ⟨4, 0, [97, 98, 99, 100], [0, 0, 0, 0], 0, false, 0⟩
def S2 : Bf := ⟨4, 0, [97, 98, 99, 100], [1, 1, 1, 0], 3, false, 0⟩
def S4 : Bf := ⟨4, 0, [97, 98, 99, 100], [1, 1, 1, 1], 4, false, 0⟩
def S5 : Bf := ⟨4, 0, [97, 98, 99, 100], [2, 2, 2, 1], 4, false, 0⟩
def S6 : Bf := ⟨4, 0, [97, 98, 99, 100], [1, 1, 2, 1], 4, false, 0⟩
def S7 : Bf := ⟨4, 0, [97, 98, 99, 100], [1, 1, 1, 1], 4, false, 0⟩
def S8 : Bf := ⟨4, 2, [99, 100], [1, 1], 4, false, 0⟩
def S9 : Bf := ⟨4, 2, [99, 100], [1, 1], 4, true, 0⟩
def S10 : Bf := ⟨4, 2, [99, 100], [1, 1], 4, true, 1⟩
def f3 : Fr := mkFr 8 0 ⟨#[97, 98, 99]⟩ false
def f5 : Fr := mkFr 8 3 ⟨#[100]⟩ false
def f7 : Fr := mkFr 8 0 ⟨#[97, 98]⟩ false
def f8 : Fr := mkFr 8 2 ⟨#[99]⟩ false
def f12 : Fr := mkFr 8 4 ⟨#[]⟩ true
theorem s1 : writeN (newB 4) ⟨#[97, 98, 99, 100, 101, 102]⟩ = 4 ∧ writeF (newB 4) ⟨#[97, 98, 99, 100, 101, 102]⟩ = S1 := by constructor <;> rfl
theorem s2 : nextP S1 3 10 = some (0, 3) ∧ nextB S1 (some (0, 3)) = S2 := by constructor <;> rfl
theorem s2r : nextR S1 (some (0, 3)) = f3 := by rfl
theorem s3 : nextP S2 3 0 = none := by rfl
theorem s4 : nextP S2 3 10 = some (3, 4) ∧ nextB S2 (some (3, 4)) = S4 ∧ nextR S2 (some (3, 4)) = f5 := by refine ⟨?_, ?_, ?_⟩ <;> rfl
theorem s5 : fitsF S4 f3 = true ∧ lostB S4 f3 = S5 := by constructor <;> rfl
theorem s6 : nextP S5 2 0 = some (0, 2) ∧ nextB S5 (some (0, 2)) = S6 ∧ nextR S5 (some (0, 2)) = f7 := by refine ⟨?_, ?_, ?_⟩ <;> rfl
theorem s7 : nextP S6 2 0 = some (2, 3) ∧ nextB S6 (some (2, 3)) = S7 ∧ nextR S6 (some (2, 3)) = f8 := by refine ⟨?_, ?_, ?_⟩ <;> rfl
theorem s8 : fitsF S7 f7 = true ∧ ackB S7 f7 = S8 := by constructor <;> rfl
theorem s9 : spaceF S8 = 2 := by rfl
theorem s10 : nextP S9 0 0 = some (2, 2) ∧ nextB S9 (some (2, 2)) = S10 ∧ nextR S9 (some (2, 2)) = f12 := by refine ⟨?_, ?_, ?_⟩ <;> rfl
theorem s11 : fitsF S10 (mkFr 8 5 ⟨#[]⟩ false) = false := by rfl

theorem good_of (B : Bf) (l1 : 1 ≤ B.lim) (l2 : B.lim ≤ 8192) (b0 : 0 ≤ B.base) (b1 : B.base ≤ 100000) (len : B.st.length = B.data.length) (cap : (B.data.length : Int) ≤ B.lim) (s0 : B.base ≤ B.sent) (s1 : B.sent ≤ B.base + B.data.length) : Good B := ⟨l1, l2, b0, by omega, len, cap, s0, s1⟩
theorem g0 : Good (newB 4) := by refine good_of _ ?_ ?_ ?_ ?_ ?_ ?_ ?_ ?_ <;> decide
theorem g1 : Good S1 := by refine good_of _ ?_ ?_ ?_ ?_ ?_ ?_ ?_ ?_ <;> decide
theorem g2 : Good S2 := by refine good_of _ ?_ ?_ ?_ ?_ ?_ ?_ ?_ ?_ <;> decide
theorem g4 : Good S4 := by refine good_of _ ?_ ?_ ?_ ?_ ?_ ?_ ?_ ?_ <;> decide
theorem g5 : Good S5 := by refine good_of _ ?_ ?_ ?_ ?_ ?_ ?_ ?_ ?_ <;> decide
theorem g6 : Good S6 := by refine good_of _ ?_ ?_ ?_ ?_ ?_ ?_ ?_ ?_ <;> decide
theorem g7 : Good S7 := by refine good_of _ ?_ ?_ ?_ ?_ ?_ ?_ ?_ ?_ <;> decide
theorem g8 : Good S8 := by refine good_of _ ?_ ?_ ?_ ?_ ?_ ?_ ?_ ?_ <;> decide
theorem g9 : Good S9 := by refine good_of _ ?_ ?_ ?_ ?_ ?_ ?_ ?_ ?_ <;> decide
theorem g10 : Good S10 := by refine good_of _ ?_ ?_ ?_ ?_ ?_ ?_ ?_ ?_ <;> decide
section
variable {W w : World} {b : Nat} {F : Nat → Prop} {fs : List (Nat × Fr)}
theorem c1 (h : St W w b F (newB 4) fs) : Calls Tryd.prog 11 #[.pointer (some ⟨b, 0, none⟩), .string ⟨#[97, 98, 99, 100, 101, 102]⟩] w fun e w' => e = .returned (.int .i64 4) ∧ ∃ F', St W w' b F' S1 fs :=
  (st_write h g0 _ (by decide)).mono fun _ _ hh => by rw [s1.1, s1.2] at hh; exact hh
theorem c2 (h : St W w b F S1 fs) : Calls Tryd.prog 14 #[.pointer (some ⟨b, 0, none⟩), .int .i64 3, .int .i64 10] w fun e w' => e = .returned (.tuple #[f3.val, .bool true]) ∧ ∃ F', St W w' b F' S2 fs :=
  (st_next h g1 3 10).mono fun _ _ hh => by rw [s2.1, s2.2, s2r] at hh; exact hh
theorem c3 (h : St W w b F S2 fs) : Calls Tryd.prog 14 #[.pointer (some ⟨b, 0, none⟩), .int .i64 3, .int .i64 0] w fun e w' => e = .returned (.tuple #[fr0.val, .bool false]) ∧ ∃ F', St W w' b F' S2 fs :=
  (st_next h g2 3 0).mono fun _ _ hh => by rw [s3] at hh; exact hh
theorem c4 (h : St W w b F S2 fs) : Calls Tryd.prog 14 #[.pointer (some ⟨b, 0, none⟩), .int .i64 3, .int .i64 10] w fun e w' => e = .returned (.tuple #[f5.val, .bool true]) ∧ ∃ F', St W w' b F' S4 fs :=
  (st_next h g2 3 10).mono fun _ _ hh => by rw [s4.1, s4.2.1, s4.2.2] at hh; exact hh
theorem c5 (h : St W w b F S4 fs) : Calls Tryd.prog 25 #[.pointer (some ⟨b, 0, none⟩), f3.val] w fun e w' => e = .returned (.int .i64 0) ∧ ∃ F', St W w' b F' S5 fs :=
  (st_lost h g4 f3).mono fun _ _ hh => by rw [s5.2, show ackE S4 f3 = 0 from by unfold ackE; rw [s5.1]; rfl] at hh; exact hh
theorem c6 (h : St W w b F S5 fs) : Calls Tryd.prog 14 #[.pointer (some ⟨b, 0, none⟩), .int .i64 2, .int .i64 0] w fun e w' => e = .returned (.tuple #[f7.val, .bool true]) ∧ ∃ F', St W w' b F' S6 fs :=
  (st_next h g5 2 0).mono fun _ _ hh => by rw [s6.1, s6.2.1, s6.2.2] at hh; exact hh
theorem c7 (h : St W w b F S6 fs) : Calls Tryd.prog 14 #[.pointer (some ⟨b, 0, none⟩), .int .i64 2, .int .i64 0] w fun e w' => e = .returned (.tuple #[f8.val, .bool true]) ∧ ∃ F', St W w' b F' S7 fs :=
  (st_next h g6 2 0).mono fun _ _ hh => by rw [s7.1, s7.2.1, s7.2.2] at hh; exact hh
theorem c8 (h : St W w b F S7 fs) : Calls Tryd.prog 26 #[.pointer (some ⟨b, 0, none⟩), f7.val] w fun e w' => e = .returned (.int .i64 0) ∧ ∃ F', St W w' b F' S8 fs :=
  (st_acked h g7 f7).mono fun _ _ hh => by rw [s8.2, show ackE S7 f7 = 0 from by unfold ackE; rw [s8.1]; rfl] at hh; exact hh
theorem c9 (h : St W w b F S8 fs) : Calls Tryd.prog 27 #[.pointer (some ⟨b, 0, none⟩)] w fun e w' => e = .returned (.int .i64 2) ∧ ∃ F', St W w' b F' S8 fs :=
  (st_space h g8).mono fun _ _ hh => by rw [s9] at hh; exact hh
theorem c10 (h : St W w b F S8 fs) : Calls Tryd.prog 12 #[.pointer (some ⟨b, 0, none⟩)] w fun e w' => e = .returned (.tuple #[]) ∧ ∃ F', St W w' b F' S9 fs :=
  st_finish h
theorem c11 (h : St W w b F S9 fs) : Calls Tryd.prog 14 #[.pointer (some ⟨b, 0, none⟩), .int .i64 0, .int .i64 0] w fun e w' => e = .returned (.tuple #[f12.val, .bool true]) ∧ ∃ F', St W w' b F' S10 fs :=
  (st_next h g9 0 0).mono fun _ _ hh => by rw [s10.1, s10.2.1, s10.2.2] at hh; exact hh
theorem c12 (h : St W w b F S10 fs) : Calls Tryd.prog 26 #[.pointer (some ⟨b, 0, none⟩), (mkFr 8 5 ⟨#[]⟩ false).val] w fun e w' => e = .returned (.int .i64 170) ∧ ∃ F', St W w' b F' S10 fs :=
  (st_acked h g10 (mkFr 8 5 ⟨#[]⟩ false)).mono fun _ _ hh => by rw [show ackB S10 (mkFr 8 5 ⟨#[]⟩ false) = S10 from by unfold ackB; rw [s11]; rfl, show ackE S10 (mkFr 8 5 ⟨#[]⟩ false) = 170 from by unfold ackE; rw [s11]; rfl] at hh; exact hh
end
end Go.Proofs.YtpfkeohaaeiaaaaDoor
namespace Go.Proofs.YtpfkeohaaeiaaaaDoor
open Go.RowKit
set_option maxRecDepth 100000
theorem wpList_load_row_g {P : Program} {ops : Array Oper} {rest : List Oper} {o : Oper} {a : Act} {w : World} {Q : Exit → Act → World → Prop} (hw : Region.wanted o (yielded ops a.tmps) = true) (ty : TypeId) (x : Operand) (ho : o.op = .load ty x)
    (g : Nat) (hx : a.eval x = .pointer (some ⟨g, 0, none⟩)) (t : TypeId) (cs : Array Value) (fr : Nat × Nat) (d : TypeDesc) (hg : w.heap[g]? = some (.cells cs t fr))
    (hu : P.underlying ty = some d) (hd : (match d with | .struct _ | .array _ _ => true | _ => false) = true) (hi : (P.info? ty).map (·.size) = some cs.size)
    (h : wpList P ops Q rest (a.put o.dst (.agg cs)) w) : wpList P ops Q (o :: rest) a w := by
  rw [wpList, if_pos hw]
  exact .inl (wp_load_row ty x ho g hx t cs fr d hg hu hd hi h)
theorem named {P : Program} {fid : FuncId} {args : Array Value} {w : World} {f : Fr} {o : Bool} {R : World → Prop} (h : Calls P fid args w fun e w' => e = .returned (.tuple #[f.val, .bool o]) ∧ R w') : Calls P fid args w fun e w' => ∃ V, Hid (V = .agg f.cells) ∧ e = .returned (.tuple #[V, .bool o]) ∧ R w' :=
  h.mono fun _ _ hh => ⟨_, Lib.hid rfl, hh.1, hh.2⟩
set_option maxRecDepth 100000 in
set_option maxHeartbeats 8000000 in
theorem sane_any (w : World) : Calls Tryd.prog 4 #[] w fun e w' => e = .returned (.bool true) ∧ Below w.heap.size w w' := by
  have NW := Lib.hid ((new_ok 4 w (by decide) (by decide)).mono (R' := fun e w' => e = .returned (.tuple #[.pointer (some ⟨w.heap.size, 0, none⟩), .int .i64 0]) ∧ Hid (St w w' w.heap.size (fun k => k = w.heap.size) (newB 4) [])) (fun e w' hh => ⟨hh.1, by rw [hh.2]; exact Lib.hid (st_new 4 w w (Below.refl _ w))⟩))
  have C1 := Lib.hid (fun (wx : World) (F : Nat → Prop) (fs : List (Nat × Fr)) (h : St w wx w.heap.size F _ fs) => c1 h)
  have C9 := Lib.hid (fun (wx : World) (F : Nat → Prop) (fs : List (Nat × Fr)) (h : St w wx w.heap.size F _ fs) => c9 h)
  have C10 := Lib.hid (fun (wx : World) (F : Nat → Prop) (fs : List (Nat × Fr)) (h : St w wx w.heap.size F _ fs) => c10 h)
  have C12 := Lib.hid (fun (wx : World) (F : Nat → Prop) (fs : List (Nat × Fr)) (h : St w wx w.heap.size F _ fs) => c12 h)
  have C2 := Lib.hid (fun (wx : World) (F : Nat → Prop) (fs : List (Nat × Fr)) (h : St w wx w.heap.size F _ fs) => named (c2 h))
  have C3 := Lib.hid (fun (wx : World) (F : Nat → Prop) (fs : List (Nat × Fr)) (h : St w wx w.heap.size F _ fs) => named (c3 h))
  have C4 := Lib.hid (fun (wx : World) (F : Nat → Prop) (fs : List (Nat × Fr)) (h : St w wx w.heap.size F _ fs) => named (c4 h))
  have C5 := Lib.hid (fun (wx : World) (F : Nat → Prop) (fs : List (Nat × Fr)) (h : St w wx w.heap.size F _ fs) => c5 h)
  have C6 := Lib.hid (fun (wx : World) (F : Nat → Prop) (fs : List (Nat × Fr)) (h : St w wx w.heap.size F _ fs) => named (c6 h))
  have C7 := Lib.hid (fun (wx : World) (F : Nat → Prop) (fs : List (Nat × Fr)) (h : St w wx w.heap.size F _ fs) => named (c7 h))
  have C8 := Lib.hid (fun (wx : World) (F : Nat → Prop) (fs : List (Nat × Fr)) (h : St w wx w.heap.size F _ fs) => c8 h)
  have C11 := Lib.hid (fun (wx : World) (F : Nat → Prop) (fs : List (Nat × Fr)) (h : St w wx w.heap.size F _ fs) => named (c11 h))
  have Of3 : Hid (f3.cells.all (·.oneCell') = true) := Lib.hid (one35 _ _ _ _)
  have Ofr0 : Hid (fr0.cells.all (·.oneCell') = true) := Lib.hid (one35 _ _ _ _)
  have Of5 : Hid (f5.cells.all (·.oneCell') = true) := Lib.hid (one35 _ _ _ _)
  have Of7 : Hid (f7.cells.all (·.oneCell') = true) := Lib.hid (one35 _ _ _ _)
  have Of8 : Hid (f8.cells.all (·.oneCell') = true) := Lib.hid (one35 _ _ _ _)
  have Of12 : Hid (f12.cells.all (·.oneCell') = true) := Lib.hid (one35 _ _ _ _)
  have Ef3 : Hid (f3.ty = 8 ∧ f3.off = 0 ∧ f3.s = ⟨#[97, 98, 99]⟩ ∧ f3.fin = false) := Lib.hid ⟨rfl, rfl, rfl, rfl⟩
  have Ef5 : Hid (f5.ty = 8 ∧ f5.off = 3 ∧ f5.s = ⟨#[100]⟩ ∧ f5.fin = false) := Lib.hid ⟨rfl, rfl, rfl, rfl⟩
  have Ef7 : Hid (f7.ty = 8 ∧ f7.off = 0 ∧ f7.s = ⟨#[97, 98]⟩ ∧ f7.fin = false) := Lib.hid ⟨rfl, rfl, rfl, rfl⟩
  have Ef8 : Hid (f8.ty = 8 ∧ f8.off = 2 ∧ f8.s = ⟨#[99]⟩ ∧ f8.fin = false) := Lib.hid ⟨rfl, rfl, rfl, rfl⟩
  have Ef12 : Hid (f12.ty = 8 ∧ f12.off = 4 ∧ f12.s = ⟨#[]⟩ ∧ f12.fin = true) := Lib.hid ⟨rfl, rfl, rfl, rfl⟩
  have AN := Lib.hid (fun (wx : World) => acked_nil f3 wx)
  generalize f3 = Vf3 at *
  generalize fr0 = Vfr0 at *
  generalize f5 = Vf5 at *
  generalize f7 = Vf7 at *
  generalize f8 = Vf8 at *
  generalize f12 = Vf12 at *
  generalize S1 = B1 at *
  generalize S2 = B2 at *
  generalize S4 = B4 at *
  generalize S5 = B5 at *
  generalize S6 = B6 at *
  generalize S7 = B7 at *
  generalize S8 = B8 at *
  generalize S9 = B9 at *
  generalize S10 = B10 at *
  generalize newB 4 = B0 at *
  have T1 : Hid (1 = 1) := Lib.hid rfl
  have T2 : Hid (1 = 1) := Lib.hid rfl
  have T3 : Hid (1 = 1) := Lib.hid rfl
  have T4 : Hid (1 = 1) := Lib.hid rfl
  have T5 : Hid (1 = 1) := Lib.hid rfl
  have T6 : Hid (1 = 1) := Lib.hid rfl
  have T7 : Hid (1 = 1) := Lib.hid rfl
  have T8 : Hid (1 = 1) := Lib.hid rfl
  have T9 : Hid (1 = 1) := Lib.hid rfl
  have T10 : Hid (1 = 1) := Lib.hid rfl
  have T11 : Hid (1 = 1) := Lib.hid rfl
  have T12 : Hid (1 = 1) := Lib.hid rfl
  have T13 : Hid (1 = 1) := Lib.hid rfl
  have T14 : Hid (1 = 1) := Lib.hid rfl
  have T15 : Hid (1 = 1) := Lib.hid rfl
  have T16 : Hid (1 = 1) := Lib.hid rfl
  have T17 : Hid (1 = 1) := Lib.hid rfl
  have T18 : Hid (1 = 1) := Lib.hid rfl
  have T19 : Hid (1 = 1) := Lib.hid rfl
  have T20 : Hid (1 = 1) := Lib.hid rfl
  have T21 : Hid (1 = 1) := Lib.hid rfl
  have T22 : Hid (1 = 1) := Lib.hid rfl
  have T23 : Hid (1 = 1) := Lib.hid rfl
  have T24 : Hid (1 = 1) := Lib.hid rfl
  have T25 : Hid (1 = 1) := Lib.hid rfl
  go_enter Tryd.func4, Tryd.ntmps4
  go_wp2_with (first | (go_at_call 7; have T0 := T1.out; clear T0 T1; refine NW.out.mono ?_; rintro e wn ⟨rfl, H⟩) | (go_at_call 11; have T0 := T2.out; clear T0 T2; (first | (refine (C1.out _ _ _ H.out).mono ?_)); rintro e wn ⟨rfl, FN, H2⟩; clear H; have H := Lib.hid H2; clear H2) | (go_at_call 14; have T0 := T3.out; clear T0 T3; refine (C2.out _ _ _ H.out).mono ?_; rintro e wn2 ⟨V, HV, rfl, FN, H2⟩; clear H; have H := Lib.hid H2; clear H2) | (go_at_call 14; have T0 := T4.out; clear T0 T4; refine (C3.out _ _ _ H.out).mono ?_; rintro e wn3 ⟨V, HV, rfl, FN, H2⟩; clear H; have H := Lib.hid H2; clear H2) | (go_at_call 14; have T0 := T5.out; clear T0 T5; refine (C4.out _ _ _ H.out).mono ?_; rintro e wn4 ⟨V, HV, rfl, FN, H2⟩; clear H; have H := Lib.hid H2; clear H2) | (go_at_call 14; have T0 := T6.out; clear T0 T6; refine (C6.out _ _ _ H.out).mono ?_; rintro e wn6 ⟨V, HV, rfl, FN, H2⟩; clear H; have H := Lib.hid H2; clear H2) | (go_at_call 14; have T0 := T7.out; clear T0 T7; refine (C7.out _ _ _ H.out).mono ?_; rintro e wn7 ⟨V, HV, rfl, FN, H2⟩; clear H; have H := Lib.hid H2; clear H2) | (go_at_call 14; have T0 := T8.out; clear T0 T8; refine (C11.out _ _ _ H.out).mono ?_; rintro e wn11 ⟨V, HV, rfl, FN, H2⟩; clear H; have H := Lib.hid H2; clear H2) | (go_at_call 25; have T0 := T9.out; clear T0 T9; (first | (refine (C5.out _ _ _ H.out).mono ?_)); rintro e wn ⟨rfl, FN, H2⟩; clear H; have H := Lib.hid H2; clear H2) | (go_at_call 26; have T0 := T10.out; clear T0 T10; (first | (refine (C8.out _ _ _ H.out).mono ?_)); rintro e wn ⟨rfl, FN, H2⟩; clear H; have H := Lib.hid H2; clear H2) | (go_at_call 27; have T0 := T11.out; clear T0 T11; (first | (refine (C9.out _ _ _ H.out).mono ?_)); rintro e wn ⟨rfl, FN, H2⟩; clear H; have H := Lib.hid H2; clear H2) | (go_at_call 12; have T0 := T12.out; clear T0 T12; (first | (refine (C10.out _ _ _ H.out).mono ?_)); rintro e wn ⟨rfl, FN, H2⟩; clear H; have H := Lib.hid H2; clear H2) | (have T0 := T13.out; clear T0 T13; refine wpList_store_row rfl 43 _ _ rfl _ Vf3.cells rfl HV.out 43 _ (heap_alloc_new _ _) (size43 _) rfl Of3.out ?_; rw [World.setRow_alloc_new]; have H2 := H.out.frame Vf3; clear H HV; have H := Lib.hid H2; clear H2; generalize wn2.alloc (.cells Vf3.cells 43) = wm at H ⊢) | (have T0 := T14.out; clear T0 T14; refine wpList_store_row rfl 43 _ _ rfl _ Vfr0.cells rfl HV.out 43 _ (heap_alloc_new _ _) (size43 _) rfl Ofr0.out ?_; rw [World.setRow_alloc_new]; have H2 := H.out.frame Vfr0; clear H HV; have H := Lib.hid H2; clear H2; generalize wn3.alloc (.cells Vfr0.cells 43) = wm at H ⊢) | (have T0 := T15.out; clear T0 T15; refine wpList_store_row rfl 43 _ _ rfl _ Vf5.cells rfl HV.out 43 _ (heap_alloc_new _ _) (size43 _) rfl Of5.out ?_; rw [World.setRow_alloc_new]; have H2 := H.out.frame Vf5; clear H HV; have H := Lib.hid H2; clear H2; generalize wn4.alloc (.cells Vf5.cells 43) = wm at H ⊢) | (have T0 := T16.out; clear T0 T16; refine wpList_store_row rfl 43 _ _ rfl _ Vf7.cells rfl HV.out 43 _ (heap_alloc_new _ _) (size43 _) rfl Of7.out ?_; rw [World.setRow_alloc_new]; have H2 := H.out.frame Vf7; clear H HV; have H := Lib.hid H2; clear H2; generalize wn6.alloc (.cells Vf7.cells 43) = wm at H ⊢) | (have T0 := T17.out; clear T0 T17; refine wpList_store_row rfl 43 _ _ rfl _ Vf8.cells rfl HV.out 43 _ (heap_alloc_new _ _) (size43 _) rfl Of8.out ?_; rw [World.setRow_alloc_new]; have H2 := H.out.frame Vf8; clear H HV; have H := Lib.hid H2; clear H2; generalize wn7.alloc (.cells Vf8.cells 43) = wm at H ⊢) | (have T0 := T18.out; clear T0 T18; refine wpList_store_row rfl 43 _ _ rfl _ Vf12.cells rfl HV.out 43 _ (heap_alloc_new _ _) (size43 _) rfl Of12.out ?_; rw [World.setRow_alloc_new]; have H2 := H.out.frame Vf12; clear H HV; have H := Lib.hid H2; clear H2; generalize wn11.alloc (.cells Vf12.cells 43) = wm at H ⊢) | (have T0 := T19.out; clear T0 T19; refine wpList_load_row rfl 43 _ rfl wn2.heap.size rfl 43 Vf3.cells (0, 0) _ (H.out.far (wn2.heap.size, Vf3) (by simp)).1 Tryd.underlying43 rfl (size43 Vf3) ?_) | (have T0 := T20.out; clear T0 T20; refine wpList_load_row rfl 43 _ rfl wn6.heap.size rfl 43 Vf7.cells (0, 0) _ (H.out.far (wn6.heap.size, Vf7) (by simp)).1 Tryd.underlying43 rfl (size43 Vf7) ?_) | (go_at_call 7; have T0 := T21.out; clear T0 T21; refine (new_no 0 _ (by decide)).mono ?_; rintro e wk ⟨rfl, rfl⟩; have Bf3 := Boxed.of (H.out.far (wn2.heap.size, Vf3) (by simp)).1; obtain ⟨yf30, yf32, yf33, yf34⟩ := Ef3.out; obtain ⟨kf30, kf32, kf33, kf34⟩ := Bf3; rw [yf30] at kf30; rw [yf32] at kf32; rw [yf33] at kf33; rw [yf34] at kf34; clear yf30 yf32 yf33 yf34; have Bf5 := Boxed.of (H.out.far (wn4.heap.size, Vf5) (by simp)).1; obtain ⟨yf50, yf52, yf53, yf54⟩ := Ef5.out; obtain ⟨kf50, kf52, kf53, kf54⟩ := Bf5; rw [yf50] at kf50; rw [yf52] at kf52; rw [yf53] at kf53; rw [yf54] at kf54; clear yf50 yf52 yf53 yf54; have Bf7 := Boxed.of (H.out.far (wn6.heap.size, Vf7) (by simp)).1; obtain ⟨yf70, yf72, yf73, yf74⟩ := Ef7.out; obtain ⟨kf70, kf72, kf73, kf74⟩ := Bf7; rw [yf70] at kf70; rw [yf72] at kf72; rw [yf73] at kf73; rw [yf74] at kf74; clear yf70 yf72 yf73 yf74; have Bf8 := Boxed.of (H.out.far (wn7.heap.size, Vf8) (by simp)).1; obtain ⟨yf80, yf82, yf83, yf84⟩ := Ef8.out; obtain ⟨kf80, kf82, kf83, kf84⟩ := Bf8; rw [yf80] at kf80; rw [yf82] at kf82; rw [yf83] at kf83; rw [yf84] at kf84; clear yf80 yf82 yf83 yf84; have Bf12 := Boxed.of (H.out.far (wn11.heap.size, Vf12) (by simp)).1; obtain ⟨yf120, yf122, yf123, yf124⟩ := Ef12.out; obtain ⟨kf120, kf122, kf123, kf124⟩ := Bf12; rw [yf120] at kf120; rw [yf122] at kf122; rw [yf123] at kf123; rw [yf124] at kf124; clear yf120 yf122 yf123 yf124) | (have T0 := T25.out; clear T0 T25; refine wpList_load_row_g rfl 43 _ rfl wn2.heap.size rfl 43 Vf3.cells (0, 0) _ (H.out.far (wn2.heap.size, Vf3) (by simp)).1 Tryd.underlying43 rfl (size43 Vf3) ?_) | (go_at_call 26; have T0 := T22.out; clear T0 T22; refine (AN.out _).mono ?_; rintro e wp ⟨rfl, hB⟩; have H2 := H.out.same hB; clear H; have H := Lib.hid H2; clear H2 hB) | (go_at_call 11; have T0 := T23.out; clear T0 T23; refine (write_nil _ _ (by decide)).mono ?_; rintro e wq ⟨rfl, hB⟩; have H2 := H.out.same hB; clear H; have H := Lib.hid H2; clear H2 hB) | (go_at_call 26; have T0 := T24.out; clear T0 T24; refine (C12.out _ _ _ H.out).mono ?_; rintro e wr ⟨rfl, FN, H2⟩; clear H; have H := Lib.hid H2; clear H2))
  go_ret
  exact ⟨rfl, H.out.below⟩
end Go.Proofs.YtpfkeohaaeiaaaaDoor
/- SendBufWithinLimits: the walk's contracts at its start. -/
namespace Go.Proofs.YtpfkeohaaeiaaaaDoor
open Go.RowKit
theorem btrans2 {a b c : World} (h : Below a.heap.size a b) (k : Below b.heap.size b c) : Below a.heap.size a c := h.trans (k.mono h.size)
section
variable {W w w' : World} {b bi g1 g2 : Nat} {F : Nat → Prop} {X : Wh} {R : rea.Rb} {os : List (Nat × Obj)} {l : List Fr}
theorem Sf.add (h : Sf W w b F X os (.slice none 0 0) l) {g : Nat} {o : Obj} (hg : w.heap[g]? = some o) (hF : ¬ F g) (hW : W.heap.size ≤ g) : Sf W w b F X ((g, o) :: os) (.slice none 0 0) l :=
  ⟨h.inv, h.ok, h.own, h.below, fun p hp => by rcases List.mem_cons.1 hp with rfl | hp; exact ⟨hg, hF, hW⟩; exact h.far p hp, h.row, fun k hk => by cases hk⟩
/-- the buffers and the two sides, made -/
theorem Wd.make (n0 : Nat) (h : Sf W w b F X [] (.slice none 0 0) []) (hF : ∀ k, F k → k < n0) (hW : W.heap.size ≤ n0) (h1 : n0 ≤ bi) (h2 : n0 ≤ g1) (h3 : n0 ≤ g2) (hR : rea.RbAt w bi g1 g2 R) (rm wi hi rd sm us : Int) :
    Wd W ((w.alloc (.cells (flo.rcC rm wi hi rd) 72)).alloc (.cells (flo.snC sm us 0) 74)) b bi g1 g2 w.heap.size (w.alloc (.cells (flo.rcC rm wi hi rd) 72)).heap.size F X R rm wi hi rd sm us [] (.slice none 0 0) [] := by
  have b1 : Below w.heap.size w (w.alloc (.cells (flo.rcC rm wi hi rd) 72)) := (Below.refl _ w).alloc (Nat.le_refl _) _
  have b2 : Below (w.alloc (.cells (flo.rcC rm wi hi rd) 72)).heap.size (w.alloc (.cells (flo.rcC rm wi hi rd) 72)) ((w.alloc (.cells (flo.rcC rm wi hi rd) 72)).alloc (.cells (flo.snC sm us 0) 74)) := (Below.refl _ _).alloc (Nat.le_refl _) _
  have hz : (w.alloc (.cells (flo.rcC rm wi hi rd) 72)).heap.size = w.heap.size + 1 := by simp
  have l1 := heap_lt hR.ob
  have l2 := heap_lt hR.o1
  have l3 := heap_lt hR.o2
  have hne := hR.ne
  have hs := (h.same b1).same b2
  have hR2 := (hR.below b1).below b2
  have hv : ((w.alloc (.cells (flo.rcC rm wi hi rd) 72)).alloc (.cells (flo.snC sm us 0) 74)).heap[w.heap.size]? = some (.cells (flo.rcC rm wi hi rd) 72 (0, 0)) := heap_below b2 (heap_alloc_new w _)
  have hn : ((w.alloc (.cells (flo.rcC rm wi hi rd) 72)).alloc (.cells (flo.snC sm us 0) 74)).heap[(w.alloc (.cells (flo.rcC rm wi hi rd) 72)).heap.size]? = some (.cells (flo.snC sm us 0) 74 (0, 0)) := heap_alloc_new _ _
  have hnF : ∀ k, n0 ≤ k → ¬ F k := fun k hk hf => by have := hF k hf; omega
  have s5 := hs.add hn (hnF _ (by omega)) (by omega)
  have s4 := s5.add hv (hnF _ (by omega)) (by omega)
  have s3 := s4.add hR2.o2 (hnF _ h3) (by omega)
  have s2 := s3.add hR2.o1 (hnF _ h2) (by omega)
  have s1 := s2.add hR2.ob (hnF _ h1) (by omega)
  refine ⟨s1, hR.hl, hR.sm, ?_⟩
  simp only [wdO, List.map_cons, List.map_nil, List.nodup_cons, List.mem_cons, not_or, List.not_mem_nil, not_false_eq_true, and_true, List.nodup_nil]
  exact ⟨⟨hne.1, hne.2.1, by omega, by omega⟩, ⟨hne.2.2, by omega, by omega⟩, ⟨by omega, by omega⟩, by omega⟩
end
end Go.Proofs.YtpfkeohaaeiaaaaDoor
/- SendBufWithinLimits: Next, said of the whole state. -/
namespace Go.Proofs.YtpfkeohaaeiaaaaDoor
open Go.RowKit
/-- what Next gave: t bytes are sent now -/
structure Nx (N s sm t : Nat) (is : Bool) (f : Fr) (l : List Fr) : Prop where
  lo : s ≤ t
  le : t ≤ sm
  tN : t ≤ N
  sw : rea.Sw N t (if is then l ++ [f] else l)
  go : s < N → s < sm → s < t
  z : N = 0 → is = true
theorem one_mk (ty off : Int) (s : ByteArray) (fin : Bool) : (mkFr ty off s fin).cells.all (·.oneCell') = true := by simp [mkFr, Fr.cells, Value.oneCell']
section
variable {W w w' : World} {b bi g1 g2 br bs : Nat} {F F' : Nat → Prop} {R R' : rea.Rb} {os : List (Nat × Obj)} {v v' : Value} {l l' : List Fr}
theorem wd_next {N w0 k s a sm rm hi : Nat} (q : Wq N w0 k s a sm rm R hi l) (h : Wd W w b bi g1 g2 br bs F (wlX N s) R rm w0 hi a sm s os v l) {pn c0 : Nat} (hc : s + c0 = sm) :
    Calls Tryd.prog 14 #[.pointer (some ⟨b, 0, none⟩), .int .i64 (1 + (pn : Int)), .int .i64 c0] w fun e w' => ∃ (f : Fr) (is : Bool) (t : Nat) (V : Value), e = .returned (.tuple #[V, .bool is]) ∧ Hid (V = .agg f.cells ∧ f.cells.all (·.oneCell') = true) ∧ Hid (Nx N s sm t is f l) ∧
      ∃ F' X', Hid (X'.sent = t ∧ (0 < N → X' = wlX N t)) ∧ Wd W w' b bi g1 g2 br bs F' X' R rm w0 hi a sm s os v l := by
  rw [show (1 + (pn : Int)) = ((pn + 1 : Nat) : Int) by omega]
  have hsN := q.sw.sN
  refine (sf_wl h.sf hsN (pn + 1) c0 (by omega)).mono fun e w' hh => ?_
  rcases hh with ⟨hc1, t, str, ht, h1, h2, h3, he, F', X', h4, h5, h6⟩ | ⟨hc1, he, F', h6⟩
  · refine ⟨_, true, t, _, he, Lib.hid ⟨rfl, one_mk _ _ _ _⟩, Lib.hid ⟨by omega, ?_, h2, ?_, fun h7 h8 => ?_, fun _ => rfl⟩, F', X', Lib.hid ⟨h5, h4⟩, h.step h6⟩
    · rw [ht]; unfold wlT; omega
    · exact q.sw.send h1 h2 h3
    · rw [ht]; unfold wlT; omega
  · exact ⟨fr0, false, s, _, he, Lib.hid ⟨rfl, one_mk _ _ _ _⟩, Lib.hid ⟨Nat.le_refl _, q.s1, hsN, q.sw, fun h7 h8 => absurd (.inl ⟨h7, by omega⟩) hc1, fun h0 => absurd (.inr h0) hc1⟩, F', _, Lib.hid ⟨wl_sent hsN, fun _ => rfl⟩, h.step h6⟩
end
end Go.Proofs.YtpfkeohaaeiaaaaDoor
/- SendBufWithinLimits: more laws on the state. -/
namespace Go.Proofs.YtpfkeohaaeiaaaaDoor
open Go.RowKit
section
variable {W w w' : World} {b bi g1 g2 br bs : Nat} {F F' : Nat → Prop} {X : Wh} {R R' : rea.Rb} {rm wi hi rd sm us : Int} {os : List (Nat × Obj)} {v v' : Value} {l l' : List Fr}
theorem Wd.tail {p : Nat × Obj} (h : Wd W w b bi g1 g2 br bs F X R rm wi hi rd sm us (p :: os) v l) : Wd W w b bi g1 g2 br bs F X R rm wi hi rd sm us os v l := by
  refine ⟨h.sf.sub (fun q hq => ?_), h.hl, h.sz, ?_⟩
  · simp only [wdO, List.mem_cons] at hq ⊢
    rcases hq with hq | hq | hq | hq | hq | hq <;> simp [hq]
  · have hn := h.ne
    simp only [wdO, List.map_cons, List.nodup_cons, List.mem_cons, not_or] at hn ⊢
    obtain ⟨⟨n1, n2, n3, n4, _, n5⟩, ⟨m1, m2, m3, _, m4⟩, ⟨q1, q2, _, q3⟩, ⟨r1, _, r2⟩, ⟨_, s1⟩, _, t1⟩ := hn
    exact ⟨⟨n1, n2, n3, n4, n5⟩, ⟨m1, m2, m3, m4⟩, ⟨q1, q2, q3⟩, ⟨r1, r2⟩, s1, t1⟩
/-- a block beside them turns -/
theorem Wd.turn1 {g : Nat} {o o' : Obj} (h : Wd W w b bi g1 g2 br bs F X R rm wi hi rd sm us ((g, o) :: os) v l) (hg : w.grownBy w' (some g)) (ho : w'.heap[g]? = some o') : Wd W w' b bi g1 g2 br bs F X R rm wi hi rd sm us ((g, o') :: os) v l := by
  have hn := h.ne
  simp only [wdO, List.map_cons, List.nodup_cons, List.mem_cons, not_or] at hn
  obtain ⟨⟨n1, n2, n3, n4, n6, n5⟩, ⟨m1, m2, m3, m6, m4⟩, ⟨q1, q2, q6, q3⟩, ⟨r1, r6, r2⟩, ⟨s6, s1⟩, t6, t1⟩ := hn
  have kb : ∀ k, k < w.heap.size → k ≠ g → w'.heap[k]? = w.heap[k]? := fun k hk hne => hg.block k hk (fun e => hne (by cases e; rfl))
  have hc : Chg (fun k => k = g) w w' := Chg.grown hg rfl
  have hmo : ∀ p ∈ os, w.heap[p.1]? = some p.2 := fun p hp => h.mem (List.mem_cons_of_mem _ hp)
  refine ⟨h.sf.turns hc (fun k hk => ?_) (fun p hp => ?_), h.hl, h.sz, h.ne⟩
  · subst hk
    exact ⟨o, by simp [wdO]⟩
  · simp only [wdO, List.mem_cons] at hp
    rcases hp with rfl | rfl | rfl | rfl | rfl | rfl | hp
    · exact ⟨(kb _ (heap_lt h.rb.ob) n6).trans h.rb.ob, _, List.mem_cons_self ..⟩
    · exact ⟨(kb _ (heap_lt h.rb.o1) m6).trans h.rb.o1, _, List.mem_cons_of_mem _ (List.mem_cons_self ..)⟩
    · exact ⟨(kb _ (heap_lt h.rb.o2) q6).trans h.rb.o2, _, List.mem_cons_of_mem _ (List.mem_cons_of_mem _ (List.mem_cons_self ..))⟩
    · exact ⟨(kb _ (heap_lt h.rv) r6).trans h.rv, _, by simp only [wdO, List.mem_cons]; exact .inr (.inr (.inr (.inl rfl)))⟩
    · exact ⟨(kb _ (heap_lt h.sn) s6).trans h.sn, _, by simp only [wdO, List.mem_cons]; exact .inr (.inr (.inr (.inr (.inl rfl))))⟩
    · exact ⟨ho, o, by simp [wdO]⟩
    · have hk : p.1 ≠ g := fun e => t6 (e ▸ List.mem_map_of_mem hp)
      exact ⟨(kb _ (heap_lt (hmo p hp)) hk).trans (hmo p hp), p.2, by simp only [wdO, List.mem_cons]; exact .inr (.inr (.inr (.inr (.inr (.inr hp)))))⟩
theorem Sf.at {g m cap k : Nat} {f : Fr} (h : Sf W w b F X os (.slice (some ⟨g, 0, none⟩) m cap) l) (hk : l[k]? = some f) : w.rangeAt g (k * 13) f.cells.toList := by
  obtain ⟨g', cap', e, _, hr⟩ := h.elem hk
  simp only [Value.slice.injEq, Option.some.injEq, Addr.mk.injEq] at e
  obtain ⟨⟨rfl, _, _⟩, _, _⟩ := e
  exact hr
/-- the row of frames, where it is not empty -/
theorem Sf.rowf (h : Sf W w b F X os v l) (h0 : 0 < l.length) : ∃ g cap, v = .slice (some ⟨g, 0, none⟩) l.length cap ∧ l.length ≤ cap ∧ cap ≤ 9223372036854775807 := by
  rcases h.row.2 with ⟨rfl, e⟩ | ⟨g, cap, cur, rfl, hb, hg, hn, hc, hs, ht⟩
  · omega
  · exact ⟨g, cap, rfl, hn, by unfold maxLen at hc; omega⟩
end
theorem frbox {w : World} {g : Nat} {u : Int} {str : ByteArray} {fin : Bool} (h : w.heap[g]? = some (frO (mkFr 8 u str fin))) : w.cell? ⟨g, 2, none⟩ = some (.int .i64 u) ∧ w.cell? ⟨g, 3, none⟩ = some (.string str) ∧ w.cell? ⟨g, 4, none⟩ = some (.bool fin) :=
  ⟨cell_whole h 2, cell_whole h 3, cell_whole h 4⟩
/-- the wanted frame is written over the first one -/
theorem Wd.over {W w : World} {b bi g1 g2 br bs g : Nat} {F : Nat → Prop} {X : Wh} {R : rea.Rb} {rm wi hi rd sm us : Int} {os : List (Nat × Obj)} {v : Value} {l : List Fr} {y y' : Fr} (h : Wd W w b bi g1 g2 br bs F X R rm wi hi rd sm us ((g, frO y) :: os) v l) :
    Wd W (w.setRow g y'.cells) b bi g1 g2 br bs F X R rm wi hi rd sm us ((g, frO y') :: os) v l :=
  h.turn1 (grown_rowB (grown_refl _ _) _) (setRow_heap w g y.cells y'.cells 43 (0, 0) (h.mem (p := (g, frO y)) (List.mem_cons_self ..)))
theorem Sw_one {N s : Nat} {l : List Fr} (h : rea.Sw N s l) {f : Fr} (hf : f ∈ l) : f.cells.all (·.oneCell') = true := by
  obtain ⟨u, str, rfl, _⟩ := h.each f hf
  exact one_mk _ _ _ _
theorem Sw_bd {N s : Nat} {l : List Fr} (h : rea.Sw N s l) (hN : N ≤ 300) {f : Fr} (hf : f ∈ l) : 0 ≤ f.off ∧ f.off ≤ 1000000 ∧ f.s.size ≤ 1000000 := by
  obtain ⟨u, str, rfl, h1, _⟩ := h.each f hf
  have := h.sN
  simp only [mkFr]; omega
/-- what the receiver holds behind a round's piece -/
structure Pu (N w t a k hi : Nat) (R : rea.Rb) : Prop where
  rcv : rea.Rcv streamAt N w t a R.bs R.hs hi R.kn
  at_ : R.at_ = a
  hiR : R.hi = hi
  finR : R.kn = true → R.fin = N
  zk : N = 0 → R.kn = true
  go : 60 ≤ k → a < t → 1 ≤ rea.readyF R.hs
theorem Pu.none {N w k s a sm rm hi t : Nat} {R : rea.Rb} {l l2 : List Fr} (q : Wq N w k s a sm rm R hi l) (hs : s ≤ t) (hsw : rea.Sw N t l2) (h0 : l2.length = 0) (hz : N ≠ 0) : Pu N w t a k hi R := by
  have ht : t = 0 := by
    rcases Nat.eq_zero_or_pos t with e | e
    · exact e
    · obtain ⟨f, hf, _⟩ := hsw.cov 0 e
      rw [List.eq_nil_of_length_eq_zero h0] at hf; cases hf
  exact ⟨q.rcv.more hs hsw.sN, q.at_, q.hiR, q.finR, fun h => absurd h hz, fun _ h => by omega⟩
/-- the piece y arrives -/
theorem Pu.put {N w k s a sm rm hi t : Nat} {R : rea.Rb} {l l2 : List Fr} (q : Wq N w k s a sm rm R hi l) (hw : 1 ≤ w) (hN : N ≤ 300) (hs : s ≤ t) (htm : t ≤ sm) (hsw : rea.Sw N t l2) {y : Fr} (hy : y ∈ l2) (hwant : 60 ≤ k → wantB y a = true ∨ ∀ f' ∈ l2, wantB f' a = false) :
    ∃ (u : Nat) (str : ByteArray) (fin : Bool), y = mkFr 8 u str fin ∧ u + str.size ≤ t ∧ rea.PutOk R u str fin ∧ Pu N w t a k (max hi (u + str.size)) (R.put u str fin) := by
  have haN : a ≤ N := by have := q.rcv.ah; have := q.rcv.his; have := q.sw.sN; omega
  obtain ⟨u, str, fin, rfl, h1, h2, h3, h4, h5, h6, h7, h8⟩ := wq_put (q.rcv.more hs hsw.sN) q.at_ q.hiR q.finR hsw hN haN (by have := q.s2; have := q.s3; omega) hy
  refine ⟨u, str, fin, rfl, h1, h2, h3, h4, h5, h6, h7, fun hk hat => ?_⟩
  have := hsw.wanted hat hy (by have := hwant hk; unfold wantB at this; exact this)
  simp only [mkFr] at this
  exact h8 (by omega) (by omega) (by omega)
end Go.Proofs.YtpfkeohaaeiaaaaDoor
/- SendBufWithinLimits: the next round's state. -/
namespace Go.Proofs.YtpfkeohaaeiaaaaDoor
open Go.RowKit
theorem Wq.next {N w k s a sm rm hi t hi2 m pc sm2 : Nat} {R R2 : rea.Rb} {l l2 : List Fr} (q : Wq N w k s a sm rm R hi l) (hw : 1 ≤ w) (htg : s < N → s < sm → s < t) (hts : s ≤ t) (htm : t ≤ sm) (hsw : rea.Sw N t l2) (hl2 : l2.length ≤ k + 1) (pu : Pu N w t a k hi2 R2) (hm : m = min (pc + 1) (rea.readyF R2.hs)) (hlt : a + m < N)
    (hr : rea.Rcv streamAt N w t (a + m) (rea.takeB m R2.bs) (rea.takeH m R2.hs) hi2 R2.kn) (h1 : sm ≤ sm2) (h2 : sm2 ≤ updN rm w (a + m)) (h60 : 60 ≤ k → sm2 = updN rm w (a + m)) :
    Wq N w (k + 1) t (a + m) sm2 (updN rm w (a + m)) { R2 with at_ := R2.at_ + m, bs := rea.takeB m R2.bs, hs := rea.takeH m R2.hs } hi2 l2 := by
  have h3 := q.s3; have h4 := q.s4; have hs2 := q.s2
  have hah := hr.ah; have his := hr.his
  obtain ⟨u1, u2, u3⟩ := upd_facts (rm := rm) (wi := w) (rd := a + m) (a := a) (by omega) h3 (by omega) hw
  refine ⟨hsw, hr, by show R2.at_ + m = a + m; rw [pu.at_], pu.hiR, pu.finR, by omega, h2, u2, u3, hl2, .inl hlt, fun h => by omega, fun hk => h60 (by omega), ?_⟩
  have hp := q.pr
  rcases Nat.lt_or_ge k 61 with e | e
  · omega
  · have hsa : a ≤ s := by have := q.rcv.ah; have := q.rcv.his; omega
    have hat : a < t := by
      rcases Nat.lt_or_ge a s with e1 | e1
      · omega
      · have := htg (by have := q.opn; have := q.z0; omega) (by have := q.eq e; omega)
        omega
    have := pu.go (by omega) hat
    omega
end Go.Proofs.YtpfkeohaaeiaaaaDoor
