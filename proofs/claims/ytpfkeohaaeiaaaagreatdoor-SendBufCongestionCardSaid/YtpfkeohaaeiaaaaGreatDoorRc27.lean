/- Texts Lki of this claim, one behind the other. -/
import Derived.Test.YtpfkeohaaeiaaaaGreatDoorRc21
import Derived.Test.YtpfkeohaaeiaaaaGreatDoorRc23
import Derived.Test.YtpfkeohaaeiaaaaGreatDoorRc26
import Derived.Test.YtpfkeohaaeiaaaaGreatDoorRc19
/- SendBufReliable: a Link, its send buffer, recovery, receive buffer and tracker, and other blocks, all of the call's own. -/
namespace Go.Proofs.YtpfkeohaaeiaaaaGreatDoor
open Go.RowKit
/-- a Link as plain data: what was read, the end, the time, how long nothing was sent, the packets told in the last step -/
structure Lnk where
  got : ByteArray
  en : Bool
  now : Int
  idle : Int
  av : Value
  lv : Value
def Lnk.cells (L : Lnk) (b rb bi tb : Nat) : Array Value := #[.pointer (some ⟨b, 0, none⟩), .pointer (some ⟨rb, 0, none⟩), .pointer (some ⟨bi, 0, none⟩), .pointer (some ⟨tb, 0, none⟩), .string L.got, .bool L.en, .int .i64 L.now, .int .i64 L.idle, L.av, L.lv]
/-- where its parts lie -/
structure Lad where
  b : Nat
  rb : Nat
  M : Nat
  bi : Nat
  g1 : Nat
  g2 : Nat
  tb : Nat
  lb : Nat
  /-- the congestion controller's block and what it holds, if there is one -/
  cx : Option (Nat × Array Value)
def tkO (zs : List Int) : Obj := .cells (zs.map (Value.int .i64)).toArray 108 (0, 0)
/-- the blocks beside the send buffer -/
abbrev lnO (A : Lad) (K : frm.Rc) (mo : Obj) (R : rea.Rb) (zs : List Int) (L : Lnk) (os : List (Nat × Obj)) : List (Nat × Obj) :=
  (A.lb, .cells (L.cells A.b A.rb A.bi A.tb) 35 (0, 0)) :: (A.rb, .cells #[.map (some A.M), .int .i64 K.nx, .int .i64 K.lg] 80 (0, 0)) :: (A.M, mo) :: (A.bi, .cells (R.cells A.g1 A.g2) 101 (0, 0)) :: (A.g1, rea.u8s R.bs) :: (A.g2, rea.bls R.hs) :: (A.tb, tkO zs) :: os
structure Ln (W w : World) (A : Lad) (F : Nat → Prop) (X : Wh) (K : frm.Rc) (R : rea.Rb) (zs : List Int) (L : Lnk) (os : List (Nat × Obj)) : Prop where
  st : ∃ mo, Sf W w A.b F X (lnO A K mo R zs L os) (.slice none 0 0) [] ∧ frm.MapPk w A.M K.nx.toNat K.l ∧ ((lnO A K mo R zs L os).map Prod.fst).Nodup
  ok : K.Ok
  hl : R.hs.length = R.bs.length
  sz : R.bs.length ≤ 8192
  zl : zs.length = 41
end Go.Proofs.YtpfkeohaaeiaaaaGreatDoor
