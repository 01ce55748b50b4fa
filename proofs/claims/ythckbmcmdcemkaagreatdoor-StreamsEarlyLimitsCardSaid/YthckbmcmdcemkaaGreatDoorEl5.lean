/- Texts of this claim, one behind the other: PpAt ElEnd. -/
import Derived.Test.YthckbmcmdcemkaaGreatDoorBs42
import Derived.Test.YthckbmcmdcemkaaGreatDoorBs1
import Derived.OpenShut
import Derived.Test.YthckbmcmdcemkaaGreatDoorEl4
set_option maxRecDepth 100000
set_option maxHeartbeats 16000000
set_option linter.unusedSimpArgs false
set_option linter.unusedVariables false
namespace Go.Proofs.YthckbmcmdcemkaaGreatDoor
section
open Go.RowKit Go.WideShapes Go.ChangeShapes
theorem field_k {H : Type} {enc : TypeId × Value → H} {W : World} {held : Bool} {n : Nat} {k : IntKind} {t : TypeId} (hu : Tryz.prog.underlying t = some (.int k)) {c : Value} {o : Option (DataW H × List MemPlace)} (ho : o.isSome = true)
  (h : DataW.trod enc Tryz.prog W 0 (fun _=>true) held n t [c] = o) : ∃ m : Int,c = .int k m ∧ (Lit.int k m).wf = true:=by
 obtain ⟨x,rfl⟩:=Option.isSome_iff_exists.1 ho
 obtain ⟨m,hc,_,hw⟩:=DataW.trod_int hu h
 cases hc
 exact ⟨m,rfl,hw⟩
theorem cells42 : Tryz.prog.cellsOf 42 = 4:=by kernel_rfl
theorem open_pp {H : Type} {enc : TypeId × Value → H} {W : World} {held : Bool} {v : Value} {d : DataW H} {p : List MemPlace} {base : Nat} (hv : Value.okWide Tryz.prog W .any base 42 v)
  (h : DataW.Trod enc Tryz.prog W 0 (fun _=>true) held 42 v d p) : ∃ d s b u : Int,v = .agg #[.int .u16 d,.int .u16 s,.int .u8 b,.int .u8 u] ∧ (0 ≤ d ∧ d ≤ 65535) ∧ (0 ≤ s ∧ s ≤ 65535) ∧ (0 ≤ b ∧ b ≤ 255) ∧ (0 ≤ u ∧ u ≤ 255):=by
 obtain ⟨cs,rfl,hsz⟩:=okWide_struct Tryz.underlying42 hv
 rw [cells42] at hsz
 obtain ⟨l⟩:=cs
 match l,hsz with
 | [c0,c1,c2,c3],_=>
  obtain ⟨fuel,hf⟩:=h
  obtain ⟨xs,n,_,_,_,hlen,hg⟩:=DataW.trod_struct Tryz.underlying42 hf
  have hs : ∀ i,i < 4 → (xs[i]?).isSome = true:=fun i hi=>by
   have : xs.length = 4:=hlen
   rw [List.getElem?_eq_getElem (by omega)];rfl
  have g0:=hg 0 _ rfl
  have g1:=hg 1 _ rfl
  have g2:=hg 2 _ rfl
  have g3:=hg 3 _ rfl
  simp only [Value.cells] at g0 g1 g2 g3
  obtain ⟨n0,rfl,b0⟩:=field_k Tryz.underlying40 (hs 0 (by decide)) g0
  obtain ⟨n1,rfl,b1⟩:=field_k Tryz.underlying40 (hs 1 (by decide)) g1
  obtain ⟨n2,rfl,b2⟩:=field_k Tryz.underlying5 (hs 2 (by decide)) g2
  obtain ⟨n3,rfl,b3⟩:=field_k Tryz.underlying5 (hs 3 (by decide)) g3
  exact ⟨n0,n1,n2,n3,rfl,bounds_u16 b0,bounds_u16 b1,bounds_u8 b2,bounds_u8 b3⟩
end
end Go.Proofs.YthckbmcmdcemkaaGreatDoor
namespace Go.Proofs.YthckbmcmdcemkaaGreatDoor.streamsEarlyLimits
section
open Go.RowKit Go.WideShapes Go.ChangeShapes
theorem main {H : Type} {enc : TypeId × Value → H} (W : World) (ad : Addr × Addr × Addr × Addr) (hl : Laid ad W) (d0 d1 : DataW H) (_hw : (DataW.weightsEach Tryz.prog [42,42] [d0,d1]).all (· ≤ reachBytes) = true)
  (b0 : Nat) (v0 : Value) (p0 : List MemPlace) (k0 : Value.okWide Tryz.prog W .any b0 42 v0) (h0 : DataW.Trod enc Tryz.prog W 0 (fun _=>true) true 42 v0 d0 p0)
  (b1 : Nat) (v1 : Value) (p1 : List MemPlace) (k1 : Value.okWide Tryz.prog W .any b1 42 v1) (h1 : DataW.Trod enc Tryz.prog W 0 (fun _=>true) true 42 v1 d1 p1) :
  Calls Tryz.prog 7 #[v0,v1] W fun e w'=>e = .returned (.bool true) ∧ Below W.heap.size W w':=by
 obtain ⟨d,s,b,u,rfl,e1,e2,e3,e4⟩:=open_pp k0 h0
 obtain ⟨d',s',b',u',rfl,f1,f2,f3,f4⟩:=open_pp k1 h1
 exact stm.el_walk d s b u d' s' b' u' e1 e2 e3 e4 f1 f2 f3 f4 hl.1 hl.2
end
end Go.Proofs.YthckbmcmdcemkaaGreatDoor.streamsEarlyLimits
