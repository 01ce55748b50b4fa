/- Texts of this claim, one behind the other: Vb. -/
import Derived.Test.YthckbmcmdcemkaaGreatDoorBs6
import Derived.OwnWalk
set_option maxRecDepth 100000
set_option maxHeartbeats 16000000
set_option linter.unusedSimpArgs false
set_option linter.unusedVariables false
namespace Go.Proofs.YthckbmcmdcemkaaGreatDoor.stm
section
open Go.RowKit
theorem own_set {w : World} {e : TypeId} {g n cap : Nat} {xs : List Int} (h : w.ownsRow 0 e 1 (.slice (some ⟨g,0,none⟩) n cap) n (xs.map (.int .u8))) (k : Nat) (v : Int) :
  (w.setCell ⟨g,k,none⟩ (.int .u8 v)).ownsRow 0 e 1 (.slice (some ⟨g,0,none⟩) n cap) n ((xs.set k v).map (.int .u8)):=by
 obtain ⟨hl,h⟩:=h
 rcases h with ⟨e,_⟩ | ⟨g',cap',cur,e,h2,h3,h4,h5,h6,h7⟩
 ·cases e
 ·simp only [Value.slice.injEq,Option.some.injEq,Addr.mk.injEq] at e
  obtain ⟨⟨rfl,_,_⟩,_,rfl⟩:=e
  refine ⟨by simpa using hl,.inr ⟨g,cap,cur.setIfInBounds k (.int .u8 v),rfl,h2,heap_set _ h3,h4,h5,by simpa using h6,?_⟩⟩
  rw [Array.toList_setIfInBounds,List.take_set,h7,List.map_set]
def cAt (id off j : Nat) : Int:=97 + (((off + j) * 7 + (off + j) / 26 + id) % 26 : Nat)
def cRow (f : Nat → Int) (n k : Nat) : List Int:=(List.range n).map (fun j=>if j < k then f j else 0)
theorem cRow_length (f : Nat → Int) (n k : Nat) : (cRow f n k).length = n:=by simp [cRow]
theorem cRow_succ (f : Nat → Int) (n k : Nat) (h : k < n) : (cRow f n k).set k (f k) = cRow f n (k + 1):=by
 apply List.ext_getElem?
 intro j
 rw [List.getElem?_set]
 simp only [cRow,List.length_map,List.length_range,List.getElem?_map]
 by_cases hj : j < n
 ·rw [List.getElem?_range hj]
  by_cases e : k = j
  ·subst e;simp [h]
  ·rw [if_neg e];simp only [Option.map_some];congr 1
   by_cases h1 : j < k
   ·rw [if_pos h1,if_pos (by omega)]
   ·rw [if_neg h1,if_neg (by omega)]
 ·rw [List.getElem?_eq_none (by simp;omega)];simp;omega
theorem cRow_zero (f : Nat → Int) (n : Nat) : (cRow f n 0).map (Value.int .u8) = List.replicate n (.int .u8 0):=by
 rw [cRow,List.map_map]
 apply List.ext_getElem?
 intro j
 simp [List.getElem?_replicate]
 by_cases h : j < n
 iterate 2 (· simp [h])
def cont (id off n : Nat) : ByteArray:=strOfNums (cRow (cAt id off) n n)
theorem cont_size (id off n : Nat) : (cont id off n).size = n:=by unfold cont;rw [strOfNums_size,cRow_length]
theorem madeCells_u8 (f : Nat → Int) (n : Nat) : (madeCells (Value.int .u8 0).cells (n * 1)).toList = (cRow f n 0).map (Value.int .u8):=by
 rw [cRow_zero]
 simp only [madeCells,Value.cells,Nat.mul_one]
 apply List.ext_getElem?
 intro j
 by_cases h : j < n
 ·simp [h,Nat.mod_one]
 ·simp [h]
theorem below_setOwn {w wr : World} (h : Below w.heap.size w wr) (k : Nat) (v : Value) : Below w.heap.size w (wr.setCell ⟨w.heap.size,k,none⟩ v):=h.setCell (Nat.le_refl _) _
theorem content_any (id off n : Nat) (w : World) (hid : id ≤ 1000) (hoff : off ≤ 1000000) (hn : n ≤ 1000000) :
  Calls Tryz.prog 20 #[.int .i64 id,.int .i64 off,.int .i64 n] w fun e w'=>e = .returned (.string (cont id off n)) ∧ Below w.heap.size w w':=by
 obtain ⟨i5,p1,p2,p3,p4⟩:=facts5
 have P1:=Lib.hid p1;have P2:=Lib.hid p2;have P3:=Lib.hid p3;have P4:=Lib.hid p4
 clear p1 p2 p3 p4
 have HH:=Lib.hid (And.intro hid (And.intro hoff hn))
 go_enter Tryz.func20,Tryz.ntmps20
 go_wp2_with (refine wpList_make_full w rfl (.tmp 9) (.tmp 9) 52 rfl 0 5 i5 _ 1 Tryz.underlying52 P1.out P2.out P3.out .i64 .i64 _ _ n rfl rfl rfl rfl (by rw [P4.out];omega) (by unfold maxLen;omega) (Nat.zero_le _) ?_;intro w1 ho hg)
 have HO : Hid (w1.ownsRow 0 5 1 (.slice (some ⟨w.heap.size,0,none⟩) n n) n ((cRow (cAt id off) n 0).map (.int .u8))):=Lib.hid (by rw [← madeCells_u8];exact ho)
 have HB : Hid (Below w.heap.size w w1):=Lib.hid ⟨hg.os,hg.tape,hg.output,hg.size,fun k hk=>hg.block k hk (by simp)⟩
 clear ho hg
 go_loopw [8] (fun i wr=>∃ k : Nat,k ≤ n ∧ i = .int .i64 k ∧ Hid (wr.ownsRow 0 5 1 (.slice (some ⟨w.heap.size,0,none⟩) n n) n ((cRow (cAt id off) n k).map (.int .u8))) ∧ Hid (Below w.heap.size w wr)) (fun i _=>n - (intOf i).toNat)
 case atStart=>exact ⟨0,Nat.zero_le _,rfl,HO,HB⟩
 case round=>
  obtain ⟨k,hk,rfl,HO,HB⟩:=hrel
  by_cases hlt : k < n
  ·have hc : wr.cell? ⟨w.heap.size,k,none⟩ = some (.int .u8 ((cRow (cAt id off) n k)[k]?.getD 0)) ∧ wr.frozen? ⟨w.heap.size,k,none⟩ = false:=by
    obtain ⟨g,cap,e,_,_,h1,h2⟩:=own_cells HO.out (by omega)
    simp only [Value.slice.injEq,Option.some.injEq,Addr.mk.injEq] at e
    obtain ⟨⟨rfl,_,_⟩,_,rfl⟩:=e
    exact ⟨h1 k hlt,h2 k⟩
   obtain ⟨hc1,hc2⟩:=hc
   generalize (cRow (cAt id off) n k)[k]?.getD 0 = x at hc1
   have HN : Hid (((wr.setCell ⟨w.heap.size,k,none⟩ (.int .u8 (cAt id off k)))).ownsRow 0 5 1 (.slice (some ⟨w.heap.size,0,none⟩) n n) n ((cRow (cAt id off) n (k+1)).map (.int .u8))):=Lib.hid (by rw [← cRow_succ _ n k hlt];exact own_set HO.out k _)
   have HB2:=Lib.hid (below_setOwn HB.out k (.int .u8 (cAt id off k)))
   clear HO HB
   have e0 : IntKind.u8.wrap (97 + (((off : Int) + (k : Int)) * 7 + ((off : Int) + (k : Int)) / 26 + (id : Int)) % 26) = cAt id off k:=by
    rw [show cAt id off k = 97 + (((off : Int) + (k : Int)) * 7 + ((off : Int) + (k : Int)) / 26 + (id : Int)) % 26 from by unfold cAt;push_cast;rfl]
    exact IntWalk.u8_in _ (by omega)
   go_wp2
   go_roundw
   case rel=>exact ⟨k + 1,by omega,by go_num,HN,HB2⟩
   case measure=>simp [intOf];omega
  ·have : k = n:=by omega
   subst this
   have hcv : ∀ dst,Tryz.prog.underlying dst = some .string → (convert 52 dst (.slice (some ⟨w.heap.size,0,none⟩) k k)).run Tryz.prog wr = .ok (.string (strOfNums (cRow (cAt id off) k k))) wr:=by
    rcases Nat.eq_zero_or_pos k with h0 | h0
    ·subst h0
     exact run_convert_bytes_arg wr 52 5 Tryz.underlying52 Tryz.underlying5 w.heap.size 0 0 0 [] rfl (fun i hi=>by omega)
    ·obtain ⟨g,cap,e,_,_,h1,h2⟩:=own_cells HO.out h0
     simp only [Value.slice.injEq,Option.some.injEq,Addr.mk.injEq] at e
     obtain ⟨⟨rfl,_,_⟩,_,rfl⟩:=e
     exact run_convert_bytes_arg wr 52 5 Tryz.underlying52 Tryz.underlying5 w.heap.size 0 k k (cRow (cAt id off) k k) (cRow_length _ _ _) (fun i hi=>by rw [Nat.zero_add,h1 i hi,List.getD_eq_getElem?_getD])
   have HB3:=HB
   clear HO HB
   have hcv9:=hcv 9 Tryz.underlying9
   go_wp2
   go_ret
   exact ⟨rfl,HB3.out⟩
end
end Go.Proofs.YthckbmcmdcemkaaGreatDoor.stm
