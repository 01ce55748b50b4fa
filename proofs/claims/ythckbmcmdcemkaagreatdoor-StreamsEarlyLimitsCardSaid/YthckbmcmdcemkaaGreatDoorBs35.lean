/- Texts of this claim, one behind the other: Pk Pj Pf. -/
import Derived.Test.YthckbmcmdcemkaaGreatDoorBs34
import Derived.Test.YthckbmcmdcemkaaGreatDoorBs32
import Derived.Test.YthckbmcmdcemkaaGreatDoorBs20
import Derived.Test.YthckbmcmdcemkaaGreatDoorBs27
set_option maxRecDepth 100000
set_option maxHeartbeats 16000000
set_option linter.unusedSimpArgs false
set_option linter.unusedVariables false
namespace Go.Proofs.YthckbmcmdcemkaaGreatDoor.stm
section
open Go.RowKit
section
variable {W w w' w0 w1 w2 X Y Y1 : World} {H H' H2 : Nat → Option Obj} {a : SetA} {s s' s2 : SetS} {bb : Nat} {v v' v2 vr : Value} {b b' b2 : Bat} {n0 n2 : Nat} {m lf : Int} {D : Nat} {E : List Ent} {p1 : SetP} {b1 : Bat} {ids : List Nat}
theorem findS_at {l1 l2 : List (StA × Strm)} {xa : StA} {x : Strm} (hl : s.ss = l1 ++ (xa,x) :: l2) (h : Inc s.ss) : findS s.pl x.id = some x:=by
 rw [hl] at h
 obtain ⟨h1,_⟩:=h.apart
 unfold findS SetS.pl
 rw [hl]
 simp only [List.map_append,List.map_cons]
 rw [List.find?_append,List.find?_eq_none.2 (fun y hy=>by
  obtain ⟨f,hf,rfl⟩:=List.mem_map.1 hy
  simpa using h1 f hf)]
 simp
theorem srvX_lf {p : SetP} {x : Strm} (h : (srvX p x b).2.2 = false) : (srvX p x b).2.1.lf = b.lf:=by
 revert h
 unfold srvX
 split
 ·intro _;rfl
 ·split
  ·split
   ·intro _;rfl
   ·intro h
    have h : b.fits _ = false:=h
    simp only [Bat.add,h]
    rfl
  ·intro _;rfl
structure LpI (W w0 : World) (a : SetA) (s : SetS) (bb : Nat) (v : Value) (n0 n2 : Nat) (m : Int) (D : Nat) (E : List Ent) (p1 : SetP) (b1 : Bat) (ids : List Nat) (X : World) (L : List Ent) (i : Nat) (g k cap : Nat) (lf : Int) : Prop where
 ex : ∃ s' v' b' cur,FuI W w0 a s bb v n0 n2 (.slice none 0 0) s' b' X v' ∧ RotAt X w0.heap.size 121 g k cap cur (L.map eP) ∧ ents s'.ss = E ∧ FGood s'.pl ∧ BatM m b' ∧ b'.lf = lf ∧ ∀ s2 b2,Srv (L.map (·.1)) i s'.pl b' s2 b2 → Srv ids 0 p1 b1 s2 b2
 dr : X.heap[D]? = some (.deferred (some []))
 mem : ∀ p ∈ L,p ∈ E
structure LpJ (W w0 : World) (a : SetA) (s : SetS) (bb : Nat) (v : Value) (n0 n2 : Nat) (m : Int) (D : Nat) (E : List Ent) (p1 : SetP) (b1 : Bat) (ids : List Nat) (X : World) (p : Ent) (t : List Ent) (i : Nat) (g k cap : Nat) (lf : Int) : Prop where
 ex : ∃ s' v' b' cur,FuI W w0 a s bb v n0 n2 (.slice none 0 0) s' b' X v' ∧ RotAt X w0.heap.size 121 g k cap cur ((p :: t).map eP) ∧ ents s'.ss = E ∧ FGood s'.pl ∧ BatM m b' ∧ b'.lf = lf ∧ ∀ s2 b2,Srv ((t ++ [p]).map (·.1)) i s'.pl b' s2 b2 → Srv ids 0 p1 b1 s2 b2
 dr : X.heap[D]? = some (.deferred (some []))
 mem : ∀ q ∈ p :: t,q ∈ E
theorem LpI.serve {p : Ent} {t : List Ent} {i g k cap : Nat} (h : LpI W w0 a s bb v n0 n2 m D E p1 b1 ids X (p :: t) i g k cap lf) (hi : i < t.length + 1) (hD : w0.heap.size ≤ D) (hM : a.M < w0.heap.size) (hm0 : -80000 ≤ m) (hm1 : m ≤ 80000) (hW : W.heap.size ≤ w0.heap.size) :
  Calls Tryz.prog 66 #[ptr a.sb,ptr p.2,ptr bb] X.drew fun e Y=>∃ q lf',e = .returned (.bool q) ∧ LpJ W w0 a s bb v n0 n2 m D E p1 b1 ids Y p t (if q then 0 else i + 1) g k cap lf' ∧ ((q = true ∧ 0 ≤ lf' ∧ lf' < lf) ∨ (q = false ∧ lf' = lf)):=by
 obtain ⟨s',v',b',cur,hF,hR,hE,hG,hB,hlf,hS⟩:=h.ex
 have hF':=hF.below (Y:=X.drew) (Below.refl _ X).drew
 obtain ⟨l1,xa,x,l2,hsp,hid,hxb⟩:=ents_split (ss:=s'.ss) (p:=p) (by rw [hE];exact h.mem p (by simp))
 have hbk:=hB.ok hm0 hm1
 have hxG : SGood x:=hG.st x (by unfold SetS.pl;rw [hsp];simp)
 have hst : StIn (full W X.drew) xa x:=hF'.sb.st.li.all (xa,x) (by rw [hsp];simp)
 have hinc : Inc s'.ss:=hF'.sb.st.li.up
 have hXok : ∀ o,x.out = some o → o.X.Ok:=fun o ho=>by
  obtain ⟨_,oa,_,hO⟩:=hF'.sb.outAt hsp ho
  exact hO.bf.1
 have hsv : srv s'.pl p.1 b' = srvX s'.pl x b':=by unfold srv;rw [← hid,findS_at hsp hinc]
 rw [← hxb]
 refine (serve_any hF'.mem hF'.sb hbk.1 (by have:=hbk.2;omega) hsp (fun o ho=>(hxG.o o ho).su)).mono ?_
 rintro e Y ⟨rfl,H2,s2,v2,e1,e2,hT,hS2⟩
 have nD : ¬ sbF s' a bb v' D:=fun c=>by
  obtain ⟨cs,T,e3,_⟩:=hF.sb.isQ c (by omega)
  have:=(full_of e3).2
  rw [h.dr] at this;cases this
 have ng : ¬ sbF s' a bb v' g:=hF.sb.no121 (full_is hR.at_ (Nat.le_trans hW hR.bg))
 obtain ⟨dD,_⟩:=hT.box (X:=X.drew) (show X.drew.heap[D]? = _ from h.dr) (by omega) nD
 obtain ⟨dg,_⟩:=hT.box (X:=X.drew) (show X.drew.heap[g]? = _ from hR.at_) (Nat.le_trans hW hR.bg) ng
 refine ⟨(srvX s'.pl x b').2.2,(srvX s'.pl x b').2.1.lf,rfl,⟨⟨s2,v2,_,cur,hF'.step hT hS2,hR.keep (dg.trans hR.at_.symm),e2.trans hE,?_,hB.srvX,rfl,fun s3 b3 h3=>?_⟩,dD,h.mem⟩,?_⟩
 ·rw [e1];exact hG.srvX hxG hXok
 ·refine hS s3 b3 ?_
  rw [List.map_cons]
  refine Srv.go _ _ _ _ _ _ _ (by simpa using hi) ?_
  rw [hsv,← e1]
  simpa using h3
 ·cases hq : (srvX s'.pl x b').2.2 with
  | true=>
   have:=srvX_less hq
   exact .inl ⟨rfl,this.1,by rw [← hlf];exact this.2⟩
  | false=>exact .inr ⟨rfl,by rw [srvX_lf hq];exact hlf⟩
theorem LpJ.rot {p : Ent} {t : List Ent} {i g k cap g' k' cap' : Nat} {cur' : Array Value} (h : LpJ W w0 a s bb v n0 n2 m D E p1 b1 ids X p t i g k cap lf) (hb : Below X.heap.size X Y1) (hg : Y1.grownBy Y (some g)) (hR : RotAt Y w0.heap.size 121 g' k' cap' cur' ((t ++ [p]).map eP)) (hW : W.heap.size ≤ w0.heap.size) : LpI W w0 a s bb v n0 n2 m D E p1 b1 ids Y (t ++ [p]) i g' k' cap' lf:=by
 obtain ⟨s',v',b',cur,hF,hR0,hE,hG,hB,hlf,hS⟩:=h.ex
 have hF1:=hF.below hb
 have hg1:=heap_below hb hR0.at_
 have hF2:=hF1.far hg (fun k e=>by cases e;exact ⟨hR0.bg,Nat.le_trans hW hR0.bg,_,hg1⟩)
 refine ⟨⟨s',v',b',cur',hF2,hR,hE,hG,hB,hlf,hS⟩,?_,fun q hq=>h.mem q (by simpa [or_comm] using hq)⟩
 have h1:=heap_below hb h.dr
 exact (hg.block D (heap_lt h1) (fun c=>by cases c;rw [h1] at hg1;cases hg1)).trans h1
def lfOf (w : World) (bb : Nat) : Nat:=(intOf ((w.cell? ⟨bb,1,none⟩).getD undef)).toNat
theorem LpI.lfOf {L : List Ent} {i g k cap : Nat} (h : LpI W w0 a s bb v n0 n2 m D E p1 b1 ids X L i g k cap lf) : lfOf X bb = lf.toNat:=by
 obtain ⟨s',v',b',cur,hF,_,_,_,_,rfl,_⟩:=h.ex
 have : X.cell? ⟨bb,1,none⟩ = some (.int .i64 b'.lf):=at_whole (hF.mem.at hF.sb.bt.bb) 1 rfl
 unfold stm.lfOf
 rw [this]
 rfl
theorem LpI.c2 {L : List Ent} {i g k cap : Nat} (h : LpI W w0 a s bb v n0 n2 m D E p1 b1 ids X L i g k cap lf) : X.cell? ⟨n2,0,none⟩ = some (.pointer (some ⟨bb,0,none⟩)):=by
 obtain ⟨s',v',b',cur,hF,_⟩:=h.ex
 exact at_whole hF.x2 0 rfl
theorem LpI.head {p : Ent} {t : List Ent} {i g k cap : Nat} (h : LpI W w0 a s bb v n0 n2 m D E p1 b1 ids X (p :: t) i g k cap lf) : X.cell? ⟨g,k,none⟩ = some (.pointer (some ⟨p.2,0,none⟩)):=by
 obtain ⟨s',v',b',cur,hF,hR,_⟩:=h.ex
 exact hR.cell (j:=0) (u:=eP p) rfl
theorem LpJ.head {p : Ent} {t : List Ent} {i g k cap : Nat} (h : LpJ W w0 a s bb v n0 n2 m D E p1 b1 ids X p t i g k cap lf) : X.cell? ⟨g,k,none⟩ = some (.pointer (some ⟨p.2,0,none⟩)) ∧ ∃ cur,RotAt X w0.heap.size 121 g k cap cur ((p :: t).map eP):=by
 obtain ⟨s',v',b',cur,hF,hR,_⟩:=h.ex
 exact ⟨hR.cell (j:=0) (u:=eP p) rfl,cur,hR⟩
theorem RotAt.weak {base base' : Nat} {g k cap : Nat} {cur : Array Value} {xs : List Value} (h : RotAt X base 121 g k cap cur xs) (hb : base' ≤ base) : RotAt X base' 121 g k cap cur xs:=⟨Nat.le_trans hb h.bg,h.at_,h.le,h.sz,h.mx,h.is⟩
theorem RotAt.cut {p : Ent} {t : List Ent} {g k cap : Nat} {cur : Array Value} (h : RotAt X w0.heap.size 121 g k cap cur ((p :: t).map eP)) : ∃ zo,(if cap = 1 then (some ⟨g,k,none⟩ : Option Addr) else some ⟨g,k + 1,none⟩) = some ⟨g,zo,none⟩ ∧ RotAt X w0.heap.size 121 g zo (cap - 1) cur (t.map eP):=by
 split
 ·rename_i hc
  have h1:=h.le
  simp at h1
  have ht : t = []:=List.eq_nil_of_length_eq_zero (by omega)
  subst ht
  subst hc
  exact ⟨k,rfl,h.empty k (by have:=h.sz;omega)⟩
 ·exact ⟨k + 1,rfl,h.tail⟩
def slR (i : Nat) : Option Nat:=([some 42,some 43,some 44,some 45,some 46,some 47,some 48,some 7] : List (Option Nat)).getD i none
theorem slR_lt : ∀ i,i < 8 → ∀ d,slR i = some d → d < 61:=fun i hi d h=>by
 have hjj : i = 0 ∨ i = 1 ∨ i = 2 ∨ i = 3 ∨ i = 4 ∨ i = 5 ∨ i = 6 ∨ i = 7:=by omega
 rcases hjj with rfl | rfl | rfl | rfl | rfl | rfl | rfl | rfl <;> cases h <;> decide
theorem slR_inj : ∀ i,i < 8 → ∀ j,j < 8 → slR i = slR j → slR i ≠ none → i = j:=by decide
def valRo (g k zo N cap xb : Nat) (x : Nat × Nat × Nat × Nat) (i : Nat) : Value:=(#[.slice (some ⟨g,k,none⟩) N cap,.slice (some ⟨g,zo,none⟩) (N - 1) (cap - 1),.slice (some ⟨g,k,none⟩) N cap,.pointer (some ⟨g,k,none⟩),.pointer (some ⟨xb,0,none⟩),.slice (some ⟨x.1,0,none⟩) 1 1,.slice (some ⟨x.2.1,x.2.2.1,none⟩) N x.2.2.2,.slice (some ⟨x.2.1,x.2.2.1,none⟩) N x.2.2.2] : Array Value)[i]?.getD undef
theorem valRo_eq (g k zo N cap xb : Nat) {x y : Nat × Nat × Nat × Nat} {i : Nat} (h5 : i = 5 → x.1 = y.1) (h6 : i = 6 ∨ i = 7 → x.2 = y.2) : valRo g k zo N cap xb x i = valRo g k zo N cap xb y i:=by
 obtain ⟨x1,x2⟩:=x
 obtain ⟨y1,y2⟩:=y
 match i with
 | 0 | 1 | 2 | 3 | 4=>rfl
 | 5=>obtain rfl : x1 = y1:=h5 rfl;rfl
 | 6=>obtain rfl : x2 = y2:=h6 (.inl rfl);rfl
 | 7=>obtain rfl : x2 = y2:=h6 (.inr rfl);rfl
 | _ + 8=>rfl
structure WRo (Y : World) (base g : Nat) (ts : List Value) (pv : Value) (x : Nat × Nat × Nat × Nat) (L : Nat → Bool) (w1 : World) : Prop where
 a : L 6 = false → Below Y.heap.size Y w1
 b : L 6 = false → L 5 = true → w1.heap[x.1]? = some (.cells #[pv] 121 (0,0))
 c : L 6 = true → ∃ Y1 cur',Below Y.heap.size Y Y1 ∧ Y1.grownBy w1 (some g) ∧ RotAt w1 base 121 x.2.1 x.2.2.1 x.2.2.2 cur' (ts ++ [pv])
 d : L 6 = true → ∀ j,j < 6 → L j = true
 e : (L 1 = true → L 0 = true) ∧ (L 3 = true → L 2 = true) ∧ (L 4 = true → L 3 = true) ∧ (L 5 = true → L 4 = true)
 f : L 7 = true → ∀ j,j < 7 → L j = true
theorem WRo.mono {base g : Nat} {ts : List Value} {pv : Value} {x : Nat × Nat × Nat × Nat} {L : Nat → Bool} (h : WRo Y base g ts pv x L w') (i : Nat) (h5 : i ≠ 5) (h6 : i ≠ 6) (hd : (i = 1 → L 0 = true) ∧ (i = 3 → L 2 = true) ∧ (i = 4 → L 3 = true)) (hf : i = 7 → ∀ j,j < 7 → L j = true) : WRo Y base g ts pv x (fun j=>j == i || L j) w':=by
 have e6 : ((6 == i || L 6) = L 6):=by simp [Ne.symm h6]
 have e5 : ((5 == i || L 5) = L 5):=by simp [Ne.symm h5]
 refine ⟨fun hL=>h.a (by simpa [e6] using hL),fun hL hL5=>h.b (by simpa [e6] using hL) (by simpa [e5] using hL5),fun hL=>h.c (by simpa [e6] using hL),fun hL j hj=>by rw [h.d (by simpa [e6] using hL) j hj];simp,?_,fun hL j hj=>by
  rcases Bool.or_eq_true .. ▸ hL with c | c
  ·rw [hf (beq_iff_eq.1 c).symm j hj];simp
  ·rw [h.f c j hj];simp⟩
 obtain ⟨q1,q2,q3,q4⟩:=h.e
 refine ⟨fun hL=>?_,fun hL=>?_,fun hL=>?_,fun hL=>?_⟩
 ·rcases Bool.or_eq_true .. ▸ hL with c | c
  ·rw [hd.1 (beq_iff_eq.1 c).symm];simp
  ·rw [q1 c];simp
 ·rcases Bool.or_eq_true .. ▸ hL with c | c
  ·rw [hd.2.1 (beq_iff_eq.1 c).symm];simp
  ·rw [q2 c];simp
 ·rcases Bool.or_eq_true .. ▸ hL with c | c
  ·rw [hd.2.2 (beq_iff_eq.1 c).symm];simp
  ·rw [q3 c];simp
 ·rcases Bool.or_eq_true .. ▸ hL with c | c
  ·exact absurd (beq_iff_eq.1 c).symm h5
  ·rw [q4 c];simp
theorem WRo.alloc {base g : Nat} {ts : List Value} {pv : Value} {x : Nat × Nat × Nat × Nat} {L : Nat → Bool} (h : WRo Y base g ts pv x L w') (hL : L 5 = false) (h4 : L 4 = true) : WRo Y base g ts pv (w'.heap.size,x.2) (fun j=>j == 5 || L j) (w'.alloc (.cells #[pv] 121)):=by
 have h6 : L 6 = false:=by
  cases e : L 6 with
  | false=>rfl
  | true=>rw [h.d e 5 (by decide)] at hL;cases hL
 have h7 : L 7 = false:=by
  cases e : L 7 with
  | false=>rfl
  | true=>rw [h.f e 6 (by decide)] at h6;cases h6
 have hb:=h.a h6
 obtain ⟨q1,q2,q3,q4⟩:=h.e
 refine ⟨fun _=>hb.trans (((Below.refl _ w').alloc (Nat.le_refl _) _).mono hb.size),fun _ _=>heap_alloc_new w' _,fun hL=>?_,fun hL=>?_,⟨fun hL=>?_,fun hL=>?_,fun hL=>?_,fun _=>by simp [h4]⟩,fun hL=>?_⟩
 iterate 2 (· simp [h6] at hL)
 ·simp at hL ⊢;exact q1 hL
 ·simp at hL ⊢;exact q2 hL
 ·simp at hL ⊢;exact q3 hL
 ·simp [h7] at hL
theorem WRo.app {base g g' k' cap' : Nat} {cur' : Array Value} {ts : List Value} {pv : Value} {x : Nat × Nat × Nat × Nat} {L : Nat → Bool} {Z : World} (h : WRo Y base g ts pv x L w') (hL : L 6 = false) (h1 : L 1 = true) (h5 : L 5 = true) (hg : w'.grownBy Z (some g)) (hR : RotAt Z base 121 g' k' cap' cur' (ts ++ [pv])) : WRo Y base g ts pv (x.1,g',k',cap') (fun j=>j == 6 || L j) Z:=by
 have h7 : L 7 = false:=by
  cases e : L 7 with
  | false=>rfl
  | true=>rw [h.f e 6 (by decide)] at hL;cases hL
 obtain ⟨q1,q2,q3,q4⟩:=h.e
 have l0:=q1 h1
 have l4:=q4 h5
 have l3:=q3 l4
 have l2:=q2 l3
 refine ⟨fun h=>by simp at h,fun h=>by simp at h,fun _=>⟨w',cur',h.a hL,hg,hR⟩,fun _ j hj=>?_,by simp [l0,l2,l3,l4],fun h=>by simp [h7] at h⟩
 have hjj : j = 0 ∨ j = 1 ∨ j = 2 ∨ j = 3 ∨ j = 4 ∨ j = 5:=by omega
 rcases hjj with rfl | rfl | rfl | rfl | rfl | rfl <;> simp [l0,l2,l3,l4,h1,h5]
theorem WRo.before7 {base g : Nat} {ts : List Value} {pv : Value} {x : Nat × Nat × Nat × Nat} {L : Nat → Bool} (h : WRo Y base g ts pv x L w') {i : Nat} (hi : i < 8) (hL : L i = false) : L 7 = false:=by
 cases e : L 7 with
 | false=>rfl
 | true=>
  by_cases h7 : i = 7
  ·subst h7;rw [e] at hL;cases hL
  ·rw [h.f e i (by omega)] at hL;cases hL
theorem WRo.before {base g : Nat} {ts : List Value} {pv : Value} {x : Nat × Nat × Nat × Nat} {L : Nat → Bool} (h : WRo Y base g ts pv x L w') {i : Nat} (hi : i < 6) (hL : L i = false) : L 6 = false:=by
 cases e : L 6 with
 | false=>rfl
 | true=>rw [h.d e i hi] at hL;cases hL
end
end
section
open Go.RowKit Go.Maps Go.Sort Go.Shelf
attribute [local go_sem] Oper.semAt_some
theorem all_stops2 (n : Nat) (hn : 6 ≤ n) (B sb M nn n₀ : Nat) (l : List Ent) (nx : Nat) (hu : UpE nx l) (hnx : nx ≤ 4611686018427387904) (hll : l.length ≤ 1000000) (W : World) (hn0 : n₀ ≤ W.heap.size) (hBl : B < n₀) (hbl : sb < n₀) (hMl : M < n₀)
  (hB : W.cell? ⟨B,0,none⟩ = some (.pointer (some ⟨sb,0,none⟩))) (hb : W.cell? ⟨sb,13,none⟩ = some (.map (some M))) (hM : MapE W M nn l) :
  SeqStopsK Fence.wide n Tryz.prog 126 #[.pointer (some ⟨B,0,none⟩)] (fun x : InE l=>encE x.1) (KpS n₀ B sb M) (fun ys=>ys.map (·.1) = l) (fun ys=>ys.map (·.1) <+: l) l.length W:=fun ly J Jx W2 hW hA _ hY h0=>by
 have hs2:=hW.size
 refine (all_in n hn ly B sb M nn n₀ l nx hu hnx hll (fun pre W=>∃ pre' : List (InE l),pre'.map (·.1) = pre ∧ J pre' W) (fun pre W=>∃ pre' : List (InE l),pre'.map (·.1) = pre ∧ Jx pre' W) (m:=W2.heap.size)
  (fun s A C row hs hg hr=>by obtain ⟨p',e,hj⟩:=hs;exact ⟨p',e,hA p' A C row hj hg hr⟩) ?_ W2 (Nat.le_trans hn0 hW.size) hBl hbl hMl ((hW.cell (p:=⟨B,0,none⟩) (Nat.lt_of_lt_of_le hBl hn0)).trans hB) ((hW.cell (p:=⟨sb,13,none⟩) (Nat.lt_of_lt_of_le hbl hn0)).trans hb)
  (hM.of_block (hW.block M (Nat.lt_of_lt_of_le hMl hn0))) ⟨[],rfl,h0⟩).mono ?_
 ·rintro pre x W hx ⟨pre',rfl,hj⟩ hlen
  refine (hY pre' ⟨x,hx⟩ W hj (by simpa using hlen)).mono ?_
  rintro e W' (⟨h1,h2,h3⟩ | ⟨h1,h2⟩)
  ·exact .inl ⟨h1,⟨pre' ++ [⟨x,hx⟩],by simp,h2⟩,h3⟩
  ·exact .inr ⟨h1,pre' ++ [⟨x,hx⟩],by simp,h2⟩
 ·rintro e W' ⟨h1,h2⟩
  refine ⟨h1,?_⟩
  rcases h2 with ⟨ys,rfl,ys',e,hj⟩ | ⟨pre,hp,pre',rfl,hj⟩
  ·exact .inl ⟨ys',e,hj⟩
  ·exact .inr ⟨pre',hp,hj⟩
end
section
open Go.RowKit Go.Shelf
section
variable {W w w' : World} {H : Nat → Option Obj} {a : SetA} {s : SetS}
theorem cycle_any (hm : Mem W w H) (h : SetIn H a s) (hn : s.ss.length ≤ 90000) :
  Calls Tryz.prog 65 #[ptr a.sb] w fun e w'=>∃ v,e = .returned v ∧ Below w.heap.size w w' ∧ w'.ownsRow w.heap.size 121 1 v s.ss.length ((cycE (ents s.ss) s.srv).map eP):=by
 have hb1:=(Below.refl _ w).alloc (Nat.le_refl _) (.cells #[.pointer (some ⟨a.sb,0,none⟩)] 25)
 have hM1:=hm.same hb1
 have hz1 : (w.alloc (.cells #[.pointer (some ⟨a.sb,0,none⟩)] 25)).heap.size = w.heap.size + 1:=World.size_alloc ..
 have hupE : UpE 1152921504606846976 (ents s.ss):=⟨by unfold ents;rw [List.pairwise_map];exact h.li.up,fun p hp=>by
  obtain ⟨l1,xa,x,l2,e,e2,_⟩:=ents_split hp
  rw [← e2];exact h.li.bd (xa,x) (by rw [e];simp)⟩
 have hmp : MapE (w.alloc (.cells #[.pointer (some ⟨a.sb,0,none⟩)] 25)) a.M (ents s.ss).length (ents s.ss):=by
  obtain ⟨mo,m1,_,m3⟩:=h.mp
  exact m3 _ (hM1.at m1)
 have hlt : a.M < w.heap.size:=by obtain ⟨mo,m1,_⟩:=h.mp;exact hm.lt m1
 have CL:=Lib.hid (collect_any (w:=w.alloc (.cells #[.pointer (some ⟨a.sb,0,none⟩)] 25)) w.heap.size a.sb a.M (ents s.ss).length (ents s.ss) 1152921504606846976 hupE (by decide) (by unfold ents;simp;omega) (by omega) (by have:=hm.lt h.sb;omega) (by omega) (at_whole (heap_alloc_new w _) 0 rfl) (h.c13 hM1) hmp)
 have HH:=Lib.hid (And.intro hm (And.intro h hn))
 have B1:=Lib.hid (And.intro hb1 hz1)
 clear hupE hmp hM1 hm h hn hb1 hz1
 unfold ptr
 go_enter Tryz.func65,Tryz.ntmps65
 go_wp2_with (first | (go_at_call 62;refine (all_any _ _).mono ?_;rintro e wv ⟨rfl,rfl⟩) | (go_at_call 133;refine CL.out.mono ?_;rintro e w2 ⟨v,rfl,hb,hr⟩;have B2:=Lib.hid (And.intro (btrans B1.out.1 hb) hr);clear hb hr))
 obtain ⟨l,hl⟩ : ∃ l,ents s.ss = l:=⟨_,rfl⟩
 rw [hl] at B2
 have HL:=Lib.hid hl
 clear hl
 rcases B2.out.2.2 with ⟨rfl,h0⟩ | ⟨g,cap,cur,rfl,hg0,hgb,hcap,hcm,hcs,hct⟩
 ·have hl0 : l = []:=List.eq_nil_of_length_eq_zero h0
  subst hl0
  go_wp2_with fail
  refine wp_loop_rounds 2 ?_
  rw [rounds_succ]
  go_wp2_with fail
  refine (wpIn_wide (n:=20)).1 (rea.read_region 8 18 (fun jj=>(#[.int .i64 0,.slice none 0 0,.int .i64 0,.bool false,.bool false,undef,undef,undef,undef,undef,undef,undef,undef,undef,undef,undef,undef,.bool false] : Array Value)[jj]?.getD undef) rfl (by kernel_rfl) rfl (by simp) ?_ rfl ?_)
  ·rintro jj oo hjj ho aa ⟨hold,hdep⟩
   have o0:=hold 0 (by decide)
   have o3:=hold 3 (by decide)
   have o4:=hold 4 (by decide)
   simp at o0 o3 o4
   have hjj : jj = 0 ∨ jj = 1 ∨ jj = 2 ∨ jj = 3 ∨ jj = 4 ∨ jj = 5 ∨ jj = 6 ∨ jj = 7 ∨ jj = 8 ∨ jj = 9 ∨ jj = 10 ∨ jj = 11 ∨ jj = 12 ∨ jj = 13 ∨ jj = 14 ∨ jj = 15 ∨ jj = 16 ∨ jj = 17:=by omega
   rcases hjj with rfl | rfl | rfl | rfl | rfl | rfl | rfl | rfl | rfl | rfl | rfl | rfl | rfl | rfl | rfl | rfl | rfl | rfl
   all_goals (cases ho;simp [Region.binds] at hdep;refine ⟨rfl,fun _ _=>trivial,?_⟩)
   all_goals first | exact .inr ⟨(by simp [Region.wanted,yielded,hdep];done),rfl⟩ | exact .inl ⟨(by simp [Region.wanted,yielded,hdep];done),(by simp [go_sem,Act.eval,hdep,o0,o3,o4];done)⟩ | exact .inl ⟨rfl,(by simp [go_sem,Act.eval,hdep,o0,o3,o4];done)⟩ | exact .inl ⟨rfl,(by simp [go_sem,Act.eval,o0,o3,o4];done)⟩
  rw [show List.range 18 = [0,1,2,3,4,5,6,7,8,9,10,11,12,13,14,15,16,17] from rfl]
  simp only [List.foldl_cons,List.foldl_nil,Nat.reduceAdd]
  simp (decide:=true) only [List.setIfInBounds_toArray,List.set_cons_succ,List.set_cons_zero,List.getElem?_toArray,List.getElem?_cons_succ,List.getElem?_cons_zero,Option.getD_some]
  have CC:=Lib.hid (fun (gb c : Nat) (wx : World) (hx : wx.heap[gb]? = some (.cells #[.slice none 0 0,.slice none 0 0] 140 (0,0)))=>concat_nil gb c wx hx)
  have HB:=Lib.hid (show ∀ o : Obj,Below w2.heap.size w2 (w2.drew.drew.alloc o) from fun o=>(Below.refl _ w2).drew.drew.alloc (by exact Nat.le_refl _) o)
  go_wp2
  refine wp_region_still_tail 6 (by kernel_rfl) (by kernel_rfl) ?_
  simp only [List.take_succ_cons,List.take_zero,List.drop_succ_cons,List.drop_zero]
  repeat ((with_reducible refine wpStill_step (fun K hK=>?_));go_simp;(with_reducible refine hK _ ?_);clear hK K)
  with_reducible refine wpStill_nil ?_
  go_wp2_with (go_at_call 134;refine (CC.out _ _ _ (heap_alloc_new _ _)).mono ?_;rintro e w3 ⟨v3,rfl,hb3,hr3⟩;have R3:=Lib.hid (And.intro hb3 hr3);clear hb3 hr3)
  go_ret
  have h1:=fun o : Obj=>B2.out.1.trans ((HB.out o).mono B2.out.1.size)
  rw [HL.out]
  have h9 : s.ss.length = 0:=by have:=congrArg List.length HL.out;unfold ents at this;simpa using this
  rw [h9]
  exact ⟨v3,rfl,(h1 _).trans (R3.out.1.mono (h1 _).size),own_weak R3.out.2 (h1 _).size⟩
 ·have hcl : ∀ (j : Nat) (hj : j < l.length),w2.cell? ⟨g,j,none⟩ = some (.pointer (some ⟨(l[j]'hj).2,0,none⟩)):=fun j hj=>by
   have:=B2.out.2.cells (g:=g) rfl j (eP (l[j]'hj)) (by simp [hj])
   rwa [add_plain,Nat.zero_add] at this
  go_loopw [4] (fun i wr=>∃ (j n : Nat),j ≤ cycK l s.srv ∧ i = .int .i64 j ∧ wr = w2.drewN n) (fun i _=>l.length - (intOf i).toNat)
  case atStart=>exact ⟨0,0,Nat.zero_le _,rfl,rfl⟩
  case round=>
   obtain ⟨j,n,hj,rfl,rfl⟩:=hrel
   have hM:=(HH.out.1.same B2.out.1).same (belowN (Below.refl _ w2) n)
   have c34 : (w2.drewN n).cell? ⟨a.sb,34,none⟩ = some (.int .i64 s.srv):=at_whole (hM.at HH.out.2.1.sb) 34 rfl
   have hid : ∀ (hj : j < l.length),(w2.drewN n).cell? ⟨(l[j]'hj).2,0,none⟩ = some (.int .i64 ((l[j]'hj).1 : Int)):=fun hj=>by
    have hm : l[j]'hj ∈ ents s.ss:=by rw [HL.out];exact List.getElem_mem hj
    obtain ⟨l1,xa,x,l2,e,e1,e2⟩:=ents_split hm
    rw [← e1,← e2]
    exact (HH.out.2.1.li.all (xa,x) (by rw [e];simp)).c0 hM
   have hl9 : l.length ≤ 90000:=by rw [← HL.out];unfold ents;have:=HH.out.2.2;simp;omega
   have hK:=cycK_le l s.srv
   by_cases hlt : j < cycK l s.srv
   ·have hjl : j < l.length:=by omega
    have cj : (w2.drewN n).cell? ⟨g,j,none⟩ = some (.pointer (some ⟨(l[j]'hjl).2,0,none⟩)):=hcl j hjl
    have cx:=hid hjl
    have hle:=cycK_lt hlt hjl
    have hd : decide (((l[j]'hjl).1 : Int) ≤ s.srv) = true:=decide_eq_true hle
    have h1 : (j : Int) < (l.length : Int):=by omega
    have hd1 : decide ((j : Int) < (l.length : Int)) = true:=decide_eq_true h1
    have h0 : (0 : Int) ≤ (j : Int):=by omega
    have hw1 : IntKind.i64.wrap ((j : Int) + 1) = ((j + 1 : Nat) : Int):=by rw [IntWalk.i64_in _ (by omega)];simp
    clear hid hle
    generalize (l[j]'hjl).2 = xb at *
    generalize ((l[j]'hjl).1 : Int) = id at *
    go_upto_region 3 with fail
    refine (wpIn_wide (n:=20)).1 (rea.read_region 8 18 (fun jj=>(#[.int .i64 j,.slice (some ⟨g,0,none⟩) l.length cap,.int .i64 l.length,.bool true,.bool true,.slice (some ⟨g,0,none⟩) l.length cap,.int .i64 j,.pointer (some ⟨g,j,none⟩),.pointer (some ⟨xb,0,none⟩),.pointer (some ⟨xb,0,none⟩),.pointer (some ⟨xb,0,none⟩),.int .i64 id,.pointer (some ⟨a.sb,0,none⟩),.pointer (some ⟨a.sb,0,none⟩),.pointer (some ⟨a.sb,34,none⟩),.int .i64 s.srv,.bool true,.bool true] : Array Value)[jj]?.getD undef) rfl (by kernel_rfl) rfl (by simp) ?_ rfl ?_)
    ·rintro jj oo hjj ho aa ⟨hold,hdep⟩
     have o0:=hold 0 (by decide)
     have o3:=hold 3 (by decide)
     have o4:=hold 4 (by decide)
     simp at o0 o3 o4
     have cj' : w2.cell? ⟨g,j,none⟩ = some (.pointer (some ⟨xb,0,none⟩)):=cj
     have cx' : w2.cell? ⟨xb,0,none⟩ = some (.int .i64 id):=cx
     have c34' : w2.cell? ⟨a.sb,34,none⟩ = some (.int .i64 s.srv):=c34
     have hjj : jj = 0 ∨ jj = 1 ∨ jj = 2 ∨ jj = 3 ∨ jj = 4 ∨ jj = 5 ∨ jj = 6 ∨ jj = 7 ∨ jj = 8 ∨ jj = 9 ∨ jj = 10 ∨ jj = 11 ∨ jj = 12 ∨ jj = 13 ∨ jj = 14 ∨ jj = 15 ∨ jj = 16 ∨ jj = 17:=by omega
     rcases hjj with rfl | rfl | rfl | rfl | rfl | rfl | rfl | rfl | rfl | rfl | rfl | rfl | rfl | rfl | rfl | rfl | rfl | rfl
     all_goals (cases ho;simp [Region.binds] at hdep;refine ⟨rfl,fun _ _=>trivial,?_⟩)
     all_goals first | exact .inl ⟨(by simp [Region.wanted,yielded,hdep];done),(by simp [go_sem,Act.eval,hdep,o0,o3,o4,cj',cx',c34',h0,h1,hd,hd1];done)⟩ | exact .inl ⟨rfl,(by simp [go_sem,Act.eval,hdep,o0,o3,o4,cj',cx',c34',h0,h1,hd,hd1];done)⟩ | exact .inl ⟨rfl,(by simp [go_sem,Act.eval,o0,o3,o4];done)⟩
    rw [show List.range 18 = [0,1,2,3,4,5,6,7,8,9,10,11,12,13,14,15,16,17] from rfl]
    simp only [List.foldl_cons,List.foldl_nil,Nat.reduceAdd]
    simp (decide:=true) only [List.setIfInBounds_toArray,List.set_cons_succ,List.set_cons_zero,List.getElem?_toArray,List.getElem?_cons_succ,List.getElem?_cons_zero,Option.getD_some]
    go_wp2
    go_roundw
    case rel=>exact ⟨j + 1,n + 1,by omega,by first | rfl | (rw [← hw1]) | skip,rfl⟩
    case measure=>simp [intOf];omega
   ·obtain rfl : j = cycK l s.srv:=by omega
    obtain ⟨j,hj9⟩ : ∃ y,cycK l s.srv = y:=⟨_,rfl⟩
    have hat:=fun h=>cycK_at (l:=l) (srv:=s.srv) h
    rw [hj9] at hat hid ⊢
    have hjl : j ≤ l.length:=by omega
    have hz : ∃ (d3 : Bool) (z5 z6 z7 z8 z9 z10 z11 z12 z13 z14 z15 z16 : Value) (xb : Nat) (id : Int),decide ((j : Int) < (l.length : Int)) = d3 ∧ ((d3 = true ∧ (j : Int) < (l.length : Int) ∧ (w2.drewN n).cell? ⟨g,j,none⟩ = some (.pointer (some ⟨xb,0,none⟩)) ∧ (w2.drewN n).cell? ⟨xb,0,none⟩ = some (.int .i64 id) ∧ ¬ id ≤ s.srv ∧ z5 = .slice (some ⟨g,0,none⟩) l.length cap ∧ z6 = .int .i64 j ∧ z7 = .pointer (some ⟨g,j,none⟩) ∧ z8 = .pointer (some ⟨xb,0,none⟩) ∧ z9 = .pointer (some ⟨xb,0,none⟩) ∧ z10 = .pointer (some ⟨xb,0,none⟩) ∧ z11 = .int .i64 id ∧ z12 = .pointer (some ⟨a.sb,0,none⟩) ∧ z13 = .pointer (some ⟨a.sb,0,none⟩) ∧ z14 = .pointer (some ⟨a.sb,34,none⟩) ∧ z15 = .int .i64 s.srv ∧ z16 = .bool false) ∨ (d3 = false ∧ z5 = undef ∧ z6 = undef ∧ z7 = undef ∧ z8 = undef ∧ z9 = undef ∧ z10 = undef ∧ z11 = undef ∧ z12 = undef ∧ z13 = undef ∧ z14 = undef ∧ z15 = undef ∧ z16 = undef)):=by
     by_cases h : j < l.length
     ·exact ⟨true,_,_,_,_,_,_,_,_,_,_,_,_,(l[j]'h).2,((l[j]'h).1 : Int),decide_eq_true (by omega),.inl ⟨rfl,by omega,hcl j h,hid h,hat h,rfl,rfl,rfl,rfl,rfl,rfl,rfl,rfl,rfl,rfl,rfl,rfl⟩⟩
     ·exact ⟨false,undef,undef,undef,undef,undef,undef,undef,undef,undef,undef,undef,undef,0,0,decide_eq_false (by omega),.inr ⟨rfl,rfl,rfl,rfl,rfl,rfl,rfl,rfl,rfl,rfl,rfl,rfl,rfl⟩⟩
    obtain ⟨d3,z5,z6,z7,z8,z9,z10,z11,z12,z13,z14,z15,z16,xb,id,hd3,hz⟩:=hz
    have HZ:=Lib.hid hz
    have h0 : (0 : Int) ≤ (j : Int):=by omega
    clear hid hat hz
    go_upto_region 3 with fail
    refine (wpIn_wide (n:=20)).1 (rea.read_region 8 18 (fun jj=>(#[.int .i64 j,.slice (some ⟨g,0,none⟩) l.length cap,.int .i64 l.length,.bool d3,.bool d3,z5,z6,z7,z8,z9,z10,z11,z12,z13,z14,z15,z16,.bool false] : Array Value)[jj]?.getD undef) rfl (by kernel_rfl) rfl (by simp) ?_ rfl ?_)
    ·rintro jj oo hjj ho aa ⟨hold,hdep⟩
     have o0:=hold 0 (by decide)
     have o3:=hold 3 (by decide)
     have o4:=hold 4 (by decide)
     simp at o0 o3 o4
     have c34' : w2.cell? ⟨a.sb,34,none⟩ = some (.int .i64 s.srv):=c34
     have hjj : jj = 0 ∨ jj = 1 ∨ jj = 2 ∨ jj = 3 ∨ jj = 4 ∨ jj = 5 ∨ jj = 6 ∨ jj = 7 ∨ jj = 8 ∨ jj = 9 ∨ jj = 10 ∨ jj = 11 ∨ jj = 12 ∨ jj = 13 ∨ jj = 14 ∨ jj = 15 ∨ jj = 16 ∨ jj = 17:=by omega
     rcases HZ.out with ⟨rfl,h1,cj,cx,hle,rfl,rfl,rfl,rfl,rfl,rfl,rfl,rfl,rfl,rfl,rfl,rfl⟩ | ⟨rfl,rfl,rfl,rfl,rfl,rfl,rfl,rfl,rfl,rfl,rfl,rfl,rfl⟩
     ·have cj' : w2.cell? ⟨g,j,none⟩ = some (.pointer (some ⟨xb,0,none⟩)):=cj
      have cx' : w2.cell? ⟨xb,0,none⟩ = some (.int .i64 id):=cx
      have hd : decide (id ≤ s.srv) = false:=decide_eq_false hle
      rcases hjj with rfl | rfl | rfl | rfl | rfl | rfl | rfl | rfl | rfl | rfl | rfl | rfl | rfl | rfl | rfl | rfl | rfl | rfl
      all_goals (cases ho;simp [Region.binds] at hdep;refine ⟨rfl,fun _ _=>trivial,?_⟩)
      all_goals first | exact .inl ⟨(by simp [Region.wanted,yielded,hdep];done),(by simp [go_sem,Act.eval,hdep,o0,o3,o4,cj',cx',c34',h0,h1,hd,hd3,hle];done)⟩ | exact .inl ⟨rfl,(by simp [go_sem,Act.eval,hdep,o0,o3,o4,cj',cx',c34',h0,h1,hd,hd3,hle];done)⟩ | exact .inl ⟨rfl,(by simp [go_sem,Act.eval,o0,o3,o4];done)⟩
     ·have hnl : ¬ ((j : Int) < (l.length : Int)):=of_decide_eq_false hd3
      rcases hjj with rfl | rfl | rfl | rfl | rfl | rfl | rfl | rfl | rfl | rfl | rfl | rfl | rfl | rfl | rfl | rfl | rfl | rfl
      all_goals (cases ho;simp [Region.binds] at hdep;refine ⟨rfl,fun _ _=>trivial,?_⟩)
      all_goals first | exact .inr ⟨(by simp [Region.wanted,yielded,hdep];done),rfl⟩ | exact .inl ⟨(by simp [Region.wanted,yielded,hdep];done),(by simp [go_sem,Act.eval,hdep,o0,o3,o4,h0,hd3,hnl];done)⟩ | exact .inl ⟨rfl,(by simp [go_sem,Act.eval,hdep,o0,o3,o4,h0,hd3,hnl];done)⟩ | exact .inl ⟨rfl,(by simp [go_sem,Act.eval,o0,o3,o4];done)⟩
    rw [show List.range 18 = [0,1,2,3,4,5,6,7,8,9,10,11,12,13,14,15,16,17] from rfl]
    simp only [List.foldl_cons,List.foldl_nil,Nat.reduceAdd]
    simp (decide:=true) only [List.setIfInBounds_toArray,List.set_cons_succ,List.set_cons_zero,List.getElem?_toArray,List.getElem?_cons_succ,List.getElem?_cons_zero,Option.getD_some]
    go_wp2
    have hjc : j ≤ cap:=by omega
    have g0 : (0 : Int) ≤ (j : Int):=by omega
    have g1 : (j : Int) ≤ (l.length : Int):=by omega
    have g2 : (j : Int) ≤ (cap : Int):=by omega
    have g3 : (l.length : Int) ≤ (cap : Int):=by omega
    obtain ⟨Z,hZ⟩ : ∃ Z,(if cap = j then (some ⟨g,0,none⟩ : Option Addr) else some ⟨g,j,none⟩) = Z:=⟨_,rfl⟩
    refine wp_region_still_tail 6 (by kernel_rfl) (by kernel_rfl) ?_
    simp only [List.take_succ_cons,List.take_zero,List.drop_succ_cons,List.drop_zero]
    repeat ((with_reducible refine wpStill_step (fun K hK=>?_));go_simp;(with_reducible refine hK _ ?_);clear hK K)
    with_reducible refine wpStill_nil ?_
    obtain ⟨zo,rfl,hzk⟩ : ∃ zo,Z = some ⟨g,zo,none⟩ ∧ ((zo = 0 ∧ cap = j) ∨ zo = j):=by
     rw [← hZ]
     split
     ·exact ⟨0,rfl,.inl ⟨rfl,by assumption⟩⟩
     ·exact ⟨j,rfl,.inr rfl⟩
    have hl9 : l.length ≤ 90000:=by rw [← HL.out];unfold ents;have:=HH.out.2.2;simp;omega
    have hgl : g < w2.heap.size:=heap_lt hgb
    have CC:=Lib.hid (fun (wx : World) (gb c : Nat) (hb : Below w2.heap.size w2 wx) (hx : wx.heap[gb]? = some (.cells #[.slice (some ⟨g,zo,none⟩) (l.length - j) (cap - j),.slice (some ⟨g,0,none⟩) j cap] 140 (0,0)))=>
     concat_any gb g zo (l.length - j) j (cap - j) cap c ((l.drop j).map eP) ((l.take j).map eP) wx hx (by simp) (by simp;omega) (by omega) (by omega) (fun i u hu=>by
      rw [List.getElem?_map,List.getElem?_drop] at hu
      obtain ⟨p,hp,rfl⟩:=Option.map_eq_some_iff.1 hu
      obtain ⟨hlt,rfl⟩:=List.getElem?_eq_some_iff.1 hp
      rcases hzk with ⟨_,h⟩ | rfl
      ·omega
      ·exact (hb.cell (p:=⟨g,zo + i,none⟩) hgl).trans (hcl (zo + i) hlt)) (fun i u hu=>by
      rw [List.getElem?_map] at hu
      obtain ⟨p,hp,rfl⟩:=Option.map_eq_some_iff.1 hu
      rw [List.getElem?_take] at hp
      split at hp
      ·obtain ⟨hlt,rfl⟩:=List.getElem?_eq_some_iff.1 hp
       exact (hb.cell (p:=⟨g,i,none⟩) hgl).trans (hcl i hlt)
      ·cases hp) (Nat.lt_of_lt_of_le hgl hb.size) (fun u hu=>by obtain ⟨p,_,rfl⟩:=List.mem_map.1 hu;rfl) (fun u hu=>by obtain ⟨p,_,rfl⟩:=List.mem_map.1 hu;rfl))
    have hcyc : cycE (ents s.ss) s.srv = l.drop j ++ l.take j:=by rw [HL.out,cycE_eq,hj9]
    have hlen : s.ss.length = l.length - j + j:=by (rw [← HL.out];unfold ents;have h9 : (ents s.ss).length = l.length:=by rw [HL.out]);unfold ents at h9;simp at h9 ⊢;omega
    have HC:=Lib.hid (And.intro hcyc hlen)
    have HB:=Lib.hid (show ∀ o : Obj,Below w2.heap.size w2 ((w2.drewN (n + 1)).drew.alloc o) from fun o=>(belowN (Below.refl _ w2) (n + 1)).drew.alloc (by exact Nat.le_refl _) o)
    clear hZ hcl hcyc hlen
    go_wp2_with (go_at_call 134;refine (CC.out _ _ _ (HB.out _) (heap_alloc_new _ _)).mono ?_;rintro e w3 ⟨v3,rfl,hb3,hr3⟩;have R3:=Lib.hid (And.intro hb3 hr3);clear hb3 hr3)
    go_ret
    rw [HC.out.1,HC.out.2,List.map_append]
    have h1:=fun o : Obj=>B2.out.1.trans ((HB.out o).mono B2.out.1.size)
    exact ⟨v3,rfl,(h1 _).trans (R3.out.1.mono (h1 _).size),own_weak R3.out.2 (h1 _).size⟩
end
end
end Go.Proofs.YthckbmcmdcemkaaGreatDoor.stm
