/- Texts of this claim, one behind the other: FEa FEb. -/
import Derived.Test.YthckbmcmdcemkaaGreatDoorBs3
import Derived.Test.YthckbmcmdcemkaaGreatDoorBs5
import Derived.Test.YthckbmcmdcemkaaGreatDoorBs6
import Derived.StillTailTactics
set_option maxRecDepth 100000
set_option maxHeartbeats 16000000
set_option linter.unusedSimpArgs false
set_option linter.unusedVariables false
namespace Go.Proofs.YthckbmcmdcemkaaGreatDoor.frm
section
open Go.RowKit Go.Maps
inductive PK
 | int (p : Nat)
 | txt
 | uni
def fCell : Nat → Nat | 1=>1 | 2=>5 | 3=>5 | 4=>6 | 5=>2 | 6=>10 | 7=>8 | _=>0
def fFn : Nat → Nat | 1=>158 | 2=>159 | 3=>160 | 4=>161 | 5=>162 | 6=>163 | 7=>164 | _=>0
def fLim : Nat → Int | 1=>4611686018427387903 | 2=>4611686018427387903 | 3=>1099511627776 | 4=>1073741823 | 5=>1099511627776 | 6=>4611686018427387903 | 7=>4611686018427387903 | _=>0
def FldAt (fn j : Nat) : Prop:=∀ (b : Nat) (w : World),Calls Tryz.prog fn #[.pointer (some ⟨b,0,none⟩)] w fun e w'=>e = .returned (.pointer (some ⟨b,j,none⟩)) ∧ w' = w
theorem f158 : FldAt 158 1:=fun b w=>by
 go_enter Tryz.func158,Tryz.ntmps158
 go_wp2
 go_ret
 exact ⟨rfl,rfl⟩
theorem f159 : FldAt 159 5:=fun b w=>by
 go_enter Tryz.func159,Tryz.ntmps159
 go_wp2
 go_ret
 exact ⟨rfl,rfl⟩
theorem f160 : FldAt 160 5:=fun b w=>by
 go_enter Tryz.func160,Tryz.ntmps160
 go_wp2
 go_ret
 exact ⟨rfl,rfl⟩
theorem f161 : FldAt 161 6:=fun b w=>by
 go_enter Tryz.func161,Tryz.ntmps161
 go_wp2
 go_ret
 exact ⟨rfl,rfl⟩
theorem f162 : FldAt 162 2:=fun b w=>by
 go_enter Tryz.func162,Tryz.ntmps162
 go_wp2
 go_ret
 exact ⟨rfl,rfl⟩
theorem f163 : FldAt 163 10:=fun b w=>by
 go_enter Tryz.func163,Tryz.ntmps163
 go_wp2
 go_ret
 exact ⟨rfl,rfl⟩
theorem f164 : FldAt 164 8:=fun b w=>by
 go_enter Tryz.func164,Tryz.ntmps164
 go_wp2
 go_ret
 exact ⟨rfl,rfl⟩
theorem putI_1 (b n : Nat) (d lim : Int) (w : World) (h0 : 0 ≤ d) (hl : d ≤ lim) (hm : d ≤ 4611686018427387903) (hc : w.cell? ⟨b,1,none⟩ = some (.int .i64 d)) (c1 : w.cell? ⟨n + 1,0,none⟩ = some (fnv 158)) (c0 : w.cell? ⟨n,0,none⟩ = some (.int .i64 lim)) :
  Calls Tryz.prog 226 #[.pointer (some ⟨b,0,none⟩),.pointer (some ⟨n + 1,0,none⟩),.pointer (some ⟨n,0,none⟩)] w fun e w'=>e = .returned (.string (strOfNums (encV d))) ∧ Below w.heap.size w w':=by
 unfold fnv at c1
 go_enter Tryz.func226,Tryz.ntmps226
 go_wp2
 go_still_tail 6,(by kernel_rfl)
 repeat (first | still_step | still_call (f158 _ _))
 refine wpStill_nil ?_
 go_wp2_with (go_at_call 227;refine (number_any d lim _ h0 hl hm).mono ?_;rintro e w' ⟨rfl,hb⟩)
 go_ret
 exact ⟨rfl,below_drew hb⟩
theorem clearI_1 (b n : Nat) (x : Value) (cs : Array Value) (w : World) (hb : w.heap[b]? = some (.cells cs 38 (0,0))) (hx : cs[1]? = some x) (c1 : w.cell? ⟨n + 1,0,none⟩ = some (fnv 158)) :
  Calls Tryz.prog 230 #[.pointer (some ⟨b,0,none⟩),.pointer (some ⟨n + 1,0,none⟩)] w fun e w'=>e = .returned (.tuple #[]) ∧ w' = w.setCell ⟨b,1,none⟩ (.int .i64 0):=by
 unfold fnv at c1
 have c8 : w.cell? ⟨b,1,none⟩ = some x:=(cell_whole hb 1).trans hx
 have f8:=frozen_whole hb 1
 clear hb hx
 go_enter Tryz.func230,Tryz.ntmps230
 go_wp2_with (go_at_call 158;refine (f158 b _).mono ?_;rintro e w' ⟨rfl,rfl⟩)
 go_end0
 exact ⟨rfl,rfl⟩
theorem putI_2 (b n : Nat) (d lim : Int) (w : World) (h0 : 0 ≤ d) (hl : d ≤ lim) (hm : d ≤ 4611686018427387903) (hc : w.cell? ⟨b,5,none⟩ = some (.int .i64 d)) (c1 : w.cell? ⟨n + 1,0,none⟩ = some (fnv 159)) (c0 : w.cell? ⟨n,0,none⟩ = some (.int .i64 lim)) :
  Calls Tryz.prog 226 #[.pointer (some ⟨b,0,none⟩),.pointer (some ⟨n + 1,0,none⟩),.pointer (some ⟨n,0,none⟩)] w fun e w'=>e = .returned (.string (strOfNums (encV d))) ∧ Below w.heap.size w w':=by
 unfold fnv at c1
 go_enter Tryz.func226,Tryz.ntmps226
 go_wp2
 go_still_tail 6,(by kernel_rfl)
 repeat (first | still_step | still_call (f159 _ _))
 refine wpStill_nil ?_
 go_wp2_with (go_at_call 227;refine (number_any d lim _ h0 hl hm).mono ?_;rintro e w' ⟨rfl,hb⟩)
 go_ret
 exact ⟨rfl,below_drew hb⟩
theorem clearI_2 (b n : Nat) (x : Value) (cs : Array Value) (w : World) (hb : w.heap[b]? = some (.cells cs 38 (0,0))) (hx : cs[5]? = some x) (c1 : w.cell? ⟨n + 1,0,none⟩ = some (fnv 159)) :
  Calls Tryz.prog 230 #[.pointer (some ⟨b,0,none⟩),.pointer (some ⟨n + 1,0,none⟩)] w fun e w'=>e = .returned (.tuple #[]) ∧ w' = w.setCell ⟨b,5,none⟩ (.int .i64 0):=by
 unfold fnv at c1
 have c8 : w.cell? ⟨b,5,none⟩ = some x:=(cell_whole hb 5).trans hx
 have f8:=frozen_whole hb 5
 clear hb hx
 go_enter Tryz.func230,Tryz.ntmps230
 go_wp2_with (go_at_call 159;refine (f159 b _).mono ?_;rintro e w' ⟨rfl,rfl⟩)
 go_end0
 exact ⟨rfl,rfl⟩
theorem putI_3 (b n : Nat) (d lim : Int) (w : World) (h0 : 0 ≤ d) (hl : d ≤ lim) (hm : d ≤ 4611686018427387903) (hc : w.cell? ⟨b,5,none⟩ = some (.int .i64 d)) (c1 : w.cell? ⟨n + 1,0,none⟩ = some (fnv 160)) (c0 : w.cell? ⟨n,0,none⟩ = some (.int .i64 lim)) :
  Calls Tryz.prog 226 #[.pointer (some ⟨b,0,none⟩),.pointer (some ⟨n + 1,0,none⟩),.pointer (some ⟨n,0,none⟩)] w fun e w'=>e = .returned (.string (strOfNums (encV d))) ∧ Below w.heap.size w w':=by
 unfold fnv at c1
 go_enter Tryz.func226,Tryz.ntmps226
 go_wp2
 go_still_tail 6,(by kernel_rfl)
 repeat (first | still_step | still_call (f160 _ _))
 refine wpStill_nil ?_
 go_wp2_with (go_at_call 227;refine (number_any d lim _ h0 hl hm).mono ?_;rintro e w' ⟨rfl,hb⟩)
 go_ret
 exact ⟨rfl,below_drew hb⟩
theorem clearI_3 (b n : Nat) (x : Value) (cs : Array Value) (w : World) (hb : w.heap[b]? = some (.cells cs 38 (0,0))) (hx : cs[5]? = some x) (c1 : w.cell? ⟨n + 1,0,none⟩ = some (fnv 160)) :
  Calls Tryz.prog 230 #[.pointer (some ⟨b,0,none⟩),.pointer (some ⟨n + 1,0,none⟩)] w fun e w'=>e = .returned (.tuple #[]) ∧ w' = w.setCell ⟨b,5,none⟩ (.int .i64 0):=by
 unfold fnv at c1
 have c8 : w.cell? ⟨b,5,none⟩ = some x:=(cell_whole hb 5).trans hx
 have f8:=frozen_whole hb 5
 clear hb hx
 go_enter Tryz.func230,Tryz.ntmps230
 go_wp2_with (go_at_call 160;refine (f160 b _).mono ?_;rintro e w' ⟨rfl,rfl⟩)
 go_end0
 exact ⟨rfl,rfl⟩
theorem putI_4 (b n : Nat) (d lim : Int) (w : World) (h0 : 0 ≤ d) (hl : d ≤ lim) (hm : d ≤ 4611686018427387903) (hc : w.cell? ⟨b,6,none⟩ = some (.int .i64 d)) (c1 : w.cell? ⟨n + 1,0,none⟩ = some (fnv 161)) (c0 : w.cell? ⟨n,0,none⟩ = some (.int .i64 lim)) :
  Calls Tryz.prog 226 #[.pointer (some ⟨b,0,none⟩),.pointer (some ⟨n + 1,0,none⟩),.pointer (some ⟨n,0,none⟩)] w fun e w'=>e = .returned (.string (strOfNums (encV d))) ∧ Below w.heap.size w w':=by
 unfold fnv at c1
 go_enter Tryz.func226,Tryz.ntmps226
 go_wp2
 go_still_tail 6,(by kernel_rfl)
 repeat (first | still_step | still_call (f161 _ _))
 refine wpStill_nil ?_
 go_wp2_with (go_at_call 227;refine (number_any d lim _ h0 hl hm).mono ?_;rintro e w' ⟨rfl,hb⟩)
 go_ret
 exact ⟨rfl,below_drew hb⟩
theorem clearI_4 (b n : Nat) (x : Value) (cs : Array Value) (w : World) (hb : w.heap[b]? = some (.cells cs 38 (0,0))) (hx : cs[6]? = some x) (c1 : w.cell? ⟨n + 1,0,none⟩ = some (fnv 161)) :
  Calls Tryz.prog 230 #[.pointer (some ⟨b,0,none⟩),.pointer (some ⟨n + 1,0,none⟩)] w fun e w'=>e = .returned (.tuple #[]) ∧ w' = w.setCell ⟨b,6,none⟩ (.int .i64 0):=by
 unfold fnv at c1
 have c8 : w.cell? ⟨b,6,none⟩ = some x:=(cell_whole hb 6).trans hx
 have f8:=frozen_whole hb 6
 clear hb hx
 go_enter Tryz.func230,Tryz.ntmps230
 go_wp2_with (go_at_call 161;refine (f161 b _).mono ?_;rintro e w' ⟨rfl,rfl⟩)
 go_end0
 exact ⟨rfl,rfl⟩
theorem putI_5 (b n : Nat) (d lim : Int) (w : World) (h0 : 0 ≤ d) (hl : d ≤ lim) (hm : d ≤ 4611686018427387903) (hc : w.cell? ⟨b,2,none⟩ = some (.int .i64 d)) (c1 : w.cell? ⟨n + 1,0,none⟩ = some (fnv 162)) (c0 : w.cell? ⟨n,0,none⟩ = some (.int .i64 lim)) :
  Calls Tryz.prog 226 #[.pointer (some ⟨b,0,none⟩),.pointer (some ⟨n + 1,0,none⟩),.pointer (some ⟨n,0,none⟩)] w fun e w'=>e = .returned (.string (strOfNums (encV d))) ∧ Below w.heap.size w w':=by
 unfold fnv at c1
 go_enter Tryz.func226,Tryz.ntmps226
 go_wp2
 go_still_tail 6,(by kernel_rfl)
 repeat (first | still_step | still_call (f162 _ _))
 refine wpStill_nil ?_
 go_wp2_with (go_at_call 227;refine (number_any d lim _ h0 hl hm).mono ?_;rintro e w' ⟨rfl,hb⟩)
 go_ret
 exact ⟨rfl,below_drew hb⟩
theorem clearI_5 (b n : Nat) (x : Value) (cs : Array Value) (w : World) (hb : w.heap[b]? = some (.cells cs 38 (0,0))) (hx : cs[2]? = some x) (c1 : w.cell? ⟨n + 1,0,none⟩ = some (fnv 162)) :
  Calls Tryz.prog 230 #[.pointer (some ⟨b,0,none⟩),.pointer (some ⟨n + 1,0,none⟩)] w fun e w'=>e = .returned (.tuple #[]) ∧ w' = w.setCell ⟨b,2,none⟩ (.int .i64 0):=by
 unfold fnv at c1
 have c8 : w.cell? ⟨b,2,none⟩ = some x:=(cell_whole hb 2).trans hx
 have f8:=frozen_whole hb 2
 clear hb hx
 go_enter Tryz.func230,Tryz.ntmps230
 go_wp2_with (go_at_call 162;refine (f162 b _).mono ?_;rintro e w' ⟨rfl,rfl⟩)
 go_end0
 exact ⟨rfl,rfl⟩
theorem putI_6 (b n : Nat) (d lim : Int) (w : World) (h0 : 0 ≤ d) (hl : d ≤ lim) (hm : d ≤ 4611686018427387903) (hc : w.cell? ⟨b,10,none⟩ = some (.int .i64 d)) (c1 : w.cell? ⟨n + 1,0,none⟩ = some (fnv 163)) (c0 : w.cell? ⟨n,0,none⟩ = some (.int .i64 lim)) :
  Calls Tryz.prog 226 #[.pointer (some ⟨b,0,none⟩),.pointer (some ⟨n + 1,0,none⟩),.pointer (some ⟨n,0,none⟩)] w fun e w'=>e = .returned (.string (strOfNums (encV d))) ∧ Below w.heap.size w w':=by
 unfold fnv at c1
 go_enter Tryz.func226,Tryz.ntmps226
 go_wp2
 go_still_tail 6,(by kernel_rfl)
 repeat (first | still_step | still_call (f163 _ _))
 refine wpStill_nil ?_
 go_wp2_with (go_at_call 227;refine (number_any d lim _ h0 hl hm).mono ?_;rintro e w' ⟨rfl,hb⟩)
 go_ret
 exact ⟨rfl,below_drew hb⟩
theorem clearI_6 (b n : Nat) (x : Value) (cs : Array Value) (w : World) (hb : w.heap[b]? = some (.cells cs 38 (0,0))) (hx : cs[10]? = some x) (c1 : w.cell? ⟨n + 1,0,none⟩ = some (fnv 163)) :
  Calls Tryz.prog 230 #[.pointer (some ⟨b,0,none⟩),.pointer (some ⟨n + 1,0,none⟩)] w fun e w'=>e = .returned (.tuple #[]) ∧ w' = w.setCell ⟨b,10,none⟩ (.int .i64 0):=by
 unfold fnv at c1
 have c8 : w.cell? ⟨b,10,none⟩ = some x:=(cell_whole hb 10).trans hx
 have f8:=frozen_whole hb 10
 clear hb hx
 go_enter Tryz.func230,Tryz.ntmps230
 go_wp2_with (go_at_call 163;refine (f163 b _).mono ?_;rintro e w' ⟨rfl,rfl⟩)
 go_end0
 exact ⟨rfl,rfl⟩
theorem putI_7 (b n : Nat) (d lim : Int) (w : World) (h0 : 0 ≤ d) (hl : d ≤ lim) (hm : d ≤ 4611686018427387903) (hc : w.cell? ⟨b,8,none⟩ = some (.int .i64 d)) (c1 : w.cell? ⟨n + 1,0,none⟩ = some (fnv 164)) (c0 : w.cell? ⟨n,0,none⟩ = some (.int .i64 lim)) :
  Calls Tryz.prog 226 #[.pointer (some ⟨b,0,none⟩),.pointer (some ⟨n + 1,0,none⟩),.pointer (some ⟨n,0,none⟩)] w fun e w'=>e = .returned (.string (strOfNums (encV d))) ∧ Below w.heap.size w w':=by
 unfold fnv at c1
 go_enter Tryz.func226,Tryz.ntmps226
 go_wp2
 go_still_tail 6,(by kernel_rfl)
 repeat (first | still_step | still_call (f164 _ _))
 refine wpStill_nil ?_
 go_wp2_with (go_at_call 227;refine (number_any d lim _ h0 hl hm).mono ?_;rintro e w' ⟨rfl,hb⟩)
 go_ret
 exact ⟨rfl,below_drew hb⟩
theorem clearI_7 (b n : Nat) (x : Value) (cs : Array Value) (w : World) (hb : w.heap[b]? = some (.cells cs 38 (0,0))) (hx : cs[8]? = some x) (c1 : w.cell? ⟨n + 1,0,none⟩ = some (fnv 164)) :
  Calls Tryz.prog 230 #[.pointer (some ⟨b,0,none⟩),.pointer (some ⟨n + 1,0,none⟩)] w fun e w'=>e = .returned (.tuple #[]) ∧ w' = w.setCell ⟨b,8,none⟩ (.int .i64 0):=by
 unfold fnv at c1
 have c8 : w.cell? ⟨b,8,none⟩ = some x:=(cell_whole hb 8).trans hx
 have f8:=frozen_whole hb 8
 clear hb hx
 go_enter Tryz.func230,Tryz.ntmps230
 go_wp2_with (go_at_call 164;refine (f164 b _).mono ?_;rintro e w' ⟨rfl,rfl⟩)
 go_end0
 exact ⟨rfl,rfl⟩
theorem putI_any (b n p : Nat) (d : Int) (w : World) (h1 : 1 ≤ p) (h7 : p ≤ 7) (lim : Int) (h0 : 0 ≤ d) (hl : d ≤ lim) (hm : d ≤ 4611686018427387903) (hc : w.cell? ⟨b,fCell p,none⟩ = some (.int .i64 d)) (c1 : w.cell? ⟨n + 1,0,none⟩ = some (fnv (fFn p))) (c0 : w.cell? ⟨n,0,none⟩ = some (.int .i64 lim)) :
  Calls Tryz.prog 226 #[.pointer (some ⟨b,0,none⟩),.pointer (some ⟨n + 1,0,none⟩),.pointer (some ⟨n,0,none⟩)] w fun e w'=>e = .returned (.string (strOfNums (encV d))) ∧ Below w.heap.size w w':=by
 have hp : p = 1 ∨ p = 2 ∨ p = 3 ∨ p = 4 ∨ p = 5 ∨ p = 6 ∨ p = 7:=by omega
 rcases hp with rfl | rfl | rfl | rfl | rfl | rfl | rfl
 ·exact putI_1 b n d lim w h0 hl hm hc c1 c0
 ·exact putI_2 b n d lim w h0 hl hm hc c1 c0
 ·exact putI_3 b n d lim w h0 hl hm hc c1 c0
 ·exact putI_4 b n d lim w h0 hl hm hc c1 c0
 ·exact putI_5 b n d lim w h0 hl hm hc c1 c0
 ·exact putI_6 b n d lim w h0 hl hm hc c1 c0
 ·exact putI_7 b n d lim w h0 hl hm hc c1 c0
theorem clearI_any (b n p : Nat) (x : Value) (cs : Array Value) (w : World) (h1 : 1 ≤ p) (h7 : p ≤ 7) (hb : w.heap[b]? = some (.cells cs 38 (0,0))) (hx : cs[fCell p]? = some x) (c1 : w.cell? ⟨n + 1,0,none⟩ = some (fnv (fFn p))) :
  Calls Tryz.prog 230 #[.pointer (some ⟨b,0,none⟩),.pointer (some ⟨n + 1,0,none⟩)] w fun e w'=>e = .returned (.tuple #[]) ∧ w' = w.setCell ⟨b,fCell p,none⟩ (.int .i64 0):=by
 have hp : p = 1 ∨ p = 2 ∨ p = 3 ∨ p = 4 ∨ p = 5 ∨ p = 6 ∨ p = 7:=by omega
 rcases hp with rfl | rfl | rfl | rfl | rfl | rfl | rfl
 ·exact clearI_1 b n x cs w hb hx c1
 ·exact clearI_2 b n x cs w hb hx c1
 ·exact clearI_3 b n x cs w hb hx c1
 ·exact clearI_4 b n x cs w hb hx c1
 ·exact clearI_5 b n x cs w hb hx c1
 ·exact clearI_6 b n x cs w hb hx c1
 ·exact clearI_7 b n x cs w hb hx c1
theorem clearS_any (b : Nat) (cs : Array Value) (x : Value) (w : World) (hb : w.heap[b]? = some (.cells cs 38 (0,0))) (hx : cs[3]? = some x) :
  Calls Tryz.prog 234 #[.pointer (some ⟨b,0,none⟩)] w fun e w'=>e = .returned (.tuple #[]) ∧ w' = w.setCell ⟨b,3,none⟩ (.string ⟨#[]⟩):=by
 have c8 : w.cell? ⟨b,3,none⟩ = some x:=(cell_whole hb 3).trans hx
 have f8:=frozen_whole hb 3
 clear hb hx
 go_enter Tryz.func234,Tryz.ntmps234
 go_wp2
 go_end0
 exact ⟨rfl,rfl⟩
theorem clearU_any (b : Nat) (cs : Array Value) (x : Value) (w : World) (hb : w.heap[b]? = some (.cells cs 38 (0,0))) (hx : cs[7]? = some x) :
  Calls Tryz.prog 240 #[.pointer (some ⟨b,0,none⟩)] w fun e w'=>e = .returned (.tuple #[]) ∧ w' = w.setCell ⟨b,7,none⟩ (.bool false):=by
 have c8 : w.cell? ⟨b,7,none⟩ = some x:=(cell_whole hb 7).trans hx
 have f8:=frozen_whole hb 7
 clear hb hx
 go_enter Tryz.func240,Tryz.ntmps240
 go_wp2
 go_end0
 exact ⟨rfl,rfl⟩
theorem putU_any (b : Nat) (u : Bool) (w : World) (hc : w.cell? ⟨b,7,none⟩ = some (.bool u)) :
  Calls Tryz.prog 238 #[.pointer (some ⟨b,0,none⟩)] w fun e w'=>e = .returned (.string (strOfNums [if u then 1 else 0])) ∧ w' = w:=by
 cases u
 ·have e1 : strOfNums [if false then 1 else 0] = strOfNums [0]:=rfl
  rw [e1]
  go_enter Tryz.func238,Tryz.ntmps238
  go_wp2
  go_ret
  exact ⟨by rfl,rfl⟩
 ·have e1 : strOfNums [if true then 1 else 0] = strOfNums [1]:=rfl
  rw [e1]
  go_enter Tryz.func238,Tryz.ntmps238
  go_wp2
  go_ret
  exact ⟨by rfl,rfl⟩
theorem putS_any (b n : Nat) (off : Int) (s : ByteArray) (m : Int) (w : World) (h0 : 0 ≤ off) (h1 : off + (s.size : Int) ≤ 1099511627776) (hm : (s.size : Int) ≤ m) (hc2 : w.cell? ⟨b,2,none⟩ = some (.int .i64 off)) (hc3 : w.cell? ⟨b,3,none⟩ = some (.string s))
  (c0 : w.cell? ⟨n,0,none⟩ = some (.int .i64 0)) (c1 : w.cell? ⟨n + 1,0,none⟩ = some (.int .i64 m)) :
  Calls Tryz.prog 231 #[.pointer (some ⟨b,0,none⟩),.pointer (some ⟨n,0,none⟩),.pointer (some ⟨n + 1,0,none⟩)] w fun e w'=>e = .returned (.string (strOfNums (encV s.size) ++ s)) ∧ Below w.heap.size w w':=by
 have g0 : decide ((s.size : Int) < 0) = false:=decide_eq_false (by omega)
 have g1 : decide (off + (s.size : Int) > 1099511627776) = false:=decide_eq_false (by omega)
 have g2 : (1099511627776 < off + (s.size : Int)) = False:=eq_false (by omega)
 have w1 : IntKind.i64.wrap (off + (s.size : Int)) = off + (s.size : Int):=IntWalk.i64_in _ (by omega)
 have hl : (encV s.size).length ≤ 8:=encV_len _
 have z1 : (9223372036854775807 < (strOfNums (encV s.size)).size + s.size) = False:=eq_false (by rw [strOf_size];omega)
 have NA:=Lib.hid (fun wx=>number_any (s.size : Int) m wx (by omega) hm (by omega))
 clear hl
 generalize strOfNums (encV s.size) = t at *
 go_enter Tryz.func231,Tryz.ntmps231
 go_wp2
 go_quiet (fail)
 go_wp2_with fail
 have l3:=World.block_lt_of_cell? _ _ hc3
 have l1:=World.block_lt_of_cell? _ _ c1
 have HS:=Lib.hid (show ∀ w',Held w w.heap.size w' → (w'.cell? ⟨b,3,none⟩ = some (.string s) ∧ w'.cell? ⟨n + 1,0,none⟩ = some (.int .i64 m)) from fun w' h=>⟨h.cell hc3 (Nat.ne_of_lt l3),h.cell c1 (Nat.ne_of_lt l1)⟩)
 clear l3 l1
 go_region_held3 (fun w'=>w'.cell? ⟨b,3,none⟩ = some (.string s) ∧ w'.cell? ⟨n + 1,0,none⟩ = some (.int .i64 m)) (first | exact HS.out _ (((Held.refl w _).drewN _).drew) | exact HS.out _ ((((Held.refl w _).drewN _).drew).below hb2)) (first | (go_at_call 227;refine (NA.out _).mono ?_;rintro e w2 ⟨rfl,hb2⟩))
 go_wp2
 go_ret
 exact ⟨rfl,⟨hb2.os,hb2.tape,hb2.output,hb2.size,hb2.block⟩⟩
end
section
open Go.RowKit Go.Maps
def Fr.num (f : Fr) : Nat → Int | 1=>f.str | 2=>f.max | 3=>f.max | 4=>f.code | 5=>f.off | 6=>f.seq | 7=>f.delay | _=>0
def putP (f : Fr) : PK → ByteArray
 | .int p=>strOfNums (encV (Fr.num f p))
 | .txt=>strOfNums (encV f.s.size) ++ f.s
 | .uni=>strOfNums [if f.uni then 1 else 0]
def zapN (f : Fr) : Nat → Fr | 1=>{ f with str:=0 } | 2=>{ f with max:=0 } | 3=>{ f with max:=0 } | 4=>{ f with code:=0 } | 5=>{ f with off:=0 } | 6=>{ f with seq:=0 } | 7=>{ f with delay:=0 } | _=>f
def zap (f : Fr) : PK → Fr
 | .int p=>zapN f p
 | .txt=>{ f with s:=⟨#[]⟩ }
 | .uni=>{ f with uni:=false }
def bare (ty : Int) : Fr:=⟨ty,0,0,⟨#[]⟩,false,0,0,false,0,.slice none 0 0,0,0,⟨#[]⟩⟩
def partOk (f : Fr) : PK → Prop
 | .int p=>0 ≤ Fr.num f p ∧ Fr.num f p ≤ fLim p
 | .txt=>0 ≤ f.off ∧ f.off + (f.s.size : Int) ≤ 1099511627776 ∧ f.s.size ≤ 1024
 | .uni=>True
def kinds (ty : Int) : List PK:=
 if ty = 4 then [.int 1,.int 4,.int 3] else if ty = 5 then [.int 1,.int 4] else if ty = 8 then [.int 1,.int 5,.txt] else if ty = 16 then [.int 2] else if ty = 17 then [.int 1,.int 2]
 else if ty = 18 then [.uni,.int 2] else if ty = 20 then [.int 2] else if ty = 21 then [.int 1,.int 2] else if ty = 22 then [.uni,.int 2] else []
def headB (f : Fr) : Int:=if f.fin then 9 else f.ty
def encS (f : Fr) : ByteArray:=(kinds f.ty).foldl (fun a k=>a ++ putP f k) (strOfNums [headB f])
structure FrV (f : Fr) : Prop where
 ty : f.ty = 4 ∨ f.ty = 5 ∨ f.ty = 8 ∨ f.ty = 16 ∨ f.ty = 17 ∨ f.ty = 18 ∨ f.ty = 20 ∨ f.ty = 21 ∨ f.ty = 22
 fin : f.fin = true → f.ty = 8
 ok : ∀ k ∈ kinds f.ty,partOk f k
 bare : (kinds f.ty).foldl zap { f with fin:=false } = bare f.ty
theorem zap_rg (g : Fr) (k : PK) : (zap g k).ranges = g.ranges:=by
 cases k with
 | int p=>show (zapN g p).ranges = g.ranges;unfold zapN;split <;> rfl
 | txt=>rfl
 | uni=>rfl
theorem FrV.rg {f : Fr} (hv : FrV f) : f.ranges = .slice none 0 0:=by
 have : ∀ (l : List PK) (g : Fr),(l.foldl zap g).ranges = g.ranges:=by
  intro l
  induction l with
  | nil=>intro g;rfl
  | cons k l ih=>intro g;rw [List.foldl_cons,ih,zap_rg]
 have h2:=this (kinds f.ty) { f with fin:=false }
 rw [hv.bare] at h2
 exact h2.symm
def kd (x : Nat) : Option PK:=match rows[ix x]? with
 | some (some _,.ld p)=>if 1 ≤ p ∧ p ≤ 7 then some (.int p) else if p = 8 then some .txt else none
 | some (some _,.cl f _)=>if f = 172 then some .uni else none
 | _=>none
def PartAt (w : World) (g q : Nat) : PK → Prop
 | .int p=>1 ≤ p ∧ p ≤ 7 ∧ ∃ n,w.cell? ⟨g,q * 3,none⟩ = some (.func (.func 226) #[] #[.pointer (some ⟨n + 1,0,none⟩),.pointer (some ⟨n,0,none⟩)]) ∧ w.cell? ⟨g,q * 3 + 1,none⟩ = some (.func (.func 228) #[] #[.pointer (some ⟨n + 1,0,none⟩)]) ∧ w.cell? ⟨g,q * 3 + 2,none⟩ = some (.func (.func 230) #[] #[.pointer (some ⟨n + 1,0,none⟩)]) ∧ w.cell? ⟨n,0,none⟩ = some (.int .i64 (fLim p)) ∧ w.cell? ⟨n + 1,0,none⟩ = some (fnv (fFn p))
 | .txt=>∃ n,w.cell? ⟨g,q * 3,none⟩ = some (.func (.func 231) #[] #[.pointer (some ⟨n,0,none⟩),.pointer (some ⟨n + 1,0,none⟩)]) ∧ w.cell? ⟨g,q * 3 + 1,none⟩ = some (fnv 232) ∧ w.cell? ⟨g,q * 3 + 2,none⟩ = some (fnv 234) ∧ w.cell? ⟨n,0,none⟩ = some (.int .i64 0) ∧ w.cell? ⟨n + 1,0,none⟩ = some (.int .i64 1024)
 | .uni=>w.cell? ⟨g,q * 3,none⟩ = some (fnv 238) ∧ w.cell? ⟨g,q * 3 + 1,none⟩ = some (fnv 239) ∧ w.cell? ⟨g,q * 3 + 2,none⟩ = some (fnv 240)
theorem PartAt.below {w w' : World} {g q : Nat} {k : PK} (h : PartAt w g q k) (hb : Below w.heap.size w w') : PartAt w' g q k:=by
 have K : ∀ (b i : Nat) (v : Value),w.cell? ⟨b,i,none⟩ = some v → w'.cell? ⟨b,i,none⟩ = some v:=fun b i v hv=>(hb.cell (p:=⟨b,i,none⟩) (World.block_lt_of_cell? _ _ hv)).trans hv
 cases k with
 | int p=>obtain ⟨h1,h2,n,a,b,c,d,e⟩:=h;exact ⟨h1,h2,n,K _ _ _ a,K _ _ _ b,K _ _ _ c,K _ _ _ d,K _ _ _ e⟩
 | txt=>obtain ⟨n,a,b,c,d,e⟩:=h;exact ⟨n,K _ _ _ a,K _ _ _ b,K _ _ _ c,K _ _ _ d,K _ _ _ e⟩
 | uni=>obtain ⟨a,b,c⟩:=h;exact ⟨K _ _ _ a,K _ _ _ b,K _ _ _ c⟩
def Row (w : World) (g : Nat) (ks : List PK) : Prop:=∀ q k,ks[q]? = some k → PartAt w g q k
structure BxOk (bx : Nat → Array Value) (w : World) : Prop where
 i : ∀ p,1 ≤ p → p ≤ 7 → ∃ n,bx p = intP n ∧ w.heap[n]? = some (i64B (fLim p)) ∧ w.heap[n + 1]? = some (fnB 245 (fFn p))
 t : ∃ n,bx 8 = txtP n ∧ w.heap[n]? = some (i64B 0) ∧ w.heap[n + 1]? = some (i64B 1024)
theorem pts_at {bx : Nat → Array Value} {w : World} : ∀ {xs : List Nat} {cs : Array Value},Pts bx xs cs w → ∀ q x,xs[q]? = some x → ∃ c s,rows[ix x]? = some (some x,s) ∧ Pt bx s c w ∧ c.size = 3 ∧ ∀ j,j < 3 → cs[q * 3 + j]? = c[j]?
 | [],_,_,q,x,hx=>by simp at hx
 | y :: ys,_,⟨c1,c2,s,rfl,h2,h3,h4,h5⟩,0,x,hx=>by
  simp at hx;subst hx
  exact ⟨c1,s,h3,h4,h2,fun j hj=>by rw [Nat.zero_mul,Nat.zero_add,Array.getElem?_append_left (by omega)]⟩
 | y :: ys,_,⟨c1,c2,s,rfl,h2,h3,h4,h5⟩,q + 1,x,hx=>by
  obtain ⟨c,s',k1,k2,k3,k4⟩:=pts_at h5 q x (by simpa using hx)
  refine ⟨c,s',k1,k2,k3,fun j hj=>?_⟩
  rw [Array.getElem?_append_right (by omega),h2,show (q + 1) * 3 + j - 3 = q * 3 + j by omega]
  exact k4 j hj
theorem pts_row {bx : Nat → Array Value} {w : World} {g : Nat} {xs : List Nat} {cs : Array Value} {ks : List PK} (hp : Pts bx xs cs w) (hb : BxOk bx w) (hg : w.heap[g]? = some (.cells cs 241 (0,0))) (hk : xs.map kd = ks.map some) : Row w g ks:=by
 intro q k hq
 have h1 : (xs.map kd)[q]? = some (some k):=by rw [hk,List.getElem?_map,hq];rfl
 rw [List.getElem?_map] at h1
 obtain ⟨x,hx,hkx⟩:=Option.map_eq_some_iff.1 h1
 obtain ⟨c,s,k1,k2,k3,k4⟩:=pts_at hp q x hx
 have C : ∀ j v,j < 3 → c[j]? = some v → w.cell? ⟨g,q * 3 + j,none⟩ = some v:=fun j v hj hv=>(cell_whole hg _).trans ((k4 j hj).trans hv)
 unfold kd at hkx
 rw [k1] at hkx
 cases s with
 | ld p=>
  have k2 : c = bx p:=k2
  simp only at hkx
  split at hkx
  ·rename_i hp17
   cases hkx
   obtain ⟨n,e1,e2,e3⟩:=hb.i p hp17.1 hp17.2
   rw [e1] at k2;subst k2
   exact ⟨hp17.1,hp17.2,n,C 0 _ (by omega) rfl,C 1 _ (by omega) rfl,C 2 _ (by omega) rfl,at_whole e2 0 rfl,at_whole e3 0 rfl⟩
  ·split at hkx
   ·rename_i hp8
    cases hkx
    subst hp8
    obtain ⟨n,e1,e2,e3⟩:=hb.t
    rw [e1] at k2;subst k2
    exact ⟨n,C 0 _ (by omega) rfl,C 1 _ (by omega) rfl,C 2 _ (by omega) rfl,at_whole e2 0 rfl,at_whole e3 0 rfl⟩
   ·cases hkx
 | cl f a=>
  simp only at hkx
  split at hkx
  ·rename_i hf
   cases hkx
   subst hf
   rcases k2 with ⟨e,_⟩ | ⟨_,rfl⟩ | ⟨e,_⟩
   ·cases e
   ·exact ⟨C 0 _ (by omega) rfl,C 1 _ (by omega) rfl,C 2 _ (by omega) rfl⟩
   ·cases e
  ·cases hkx
 | _=>cases hkx
theorem row_look {w0 w : World} {bx : Nat → Array Value} {L : Nat → Bool} {M : Nat} (h : Mp w0 bx L (.map (some M)) w) (hL : ∀ i,i < 78 → L i = true) (hb : BxOk bx w) (i t : Nat) (k : Int) (xs : List Nat) (ks : List PK)
  (hi : i < 78) (r1 : rows[i]? = some (none,.ins k t)) (r2 : rows[ix t]? = some (some t,.sl xs)) (hk : (Lit.int .i64 k).wf = true) (hks : xs.map kd = ks.map some) :
  ∃ g,Row w g ks ∧
   (Instr.lookup 178 (.map (some M)) (.int .i64 k) true).run Tryz.prog w = .ok (.tuple #[.slice (some ⟨g,0,none⟩) ks.length ks.length,.bool true]) w ∧
   (Instr.lookup 178 (.map (some M)) (.int .i64 k) false).run Tryz.prog w = .ok (.slice (some ⟨g,0,none⟩) ks.length ks.length) w:=by
 have hk:=Maps.keyOf_int_mk Tryz.underlying3 hk
 obtain ⟨M',n,D,h1,h2,h3,h4,h5,h6⟩:=h
 cases h1
 obtain ⟨u,s,e1,e2,e3⟩:=h6 i k t r1 (hL i hi)
 rw [r2] at e2
 cases e2
 obtain ⟨g,cs,rfl,hg,hp⟩:=e3
 obtain ⟨hh,hz⟩:=has_of_atKey e1 (by simp [undef])
 have hlen : xs.length = ks.length:=by have:=congrArg List.length hks;simpa using this
 refine ⟨g,pts_row hp hb hg hks,?_,?_⟩
 ·have:=h2.look_ok (t:=178) (e:=176) (K:=Maps.int_keyed Tryz.underlying3) Tryz.underlying178 (Tryz.zeroValue176 w) hk (hz _)
  rw [hh,hlen] at this;exact this
 ·have:=h2.look (t:=178) (e:=176) (K:=Maps.int_keyed Tryz.underlying3) Tryz.underlying178 (Tryz.zeroValue176 w) hk (hz _)
  rw [hlen] at this;exact this
theorem row_ty {w0 w : World} {bx : Nat → Array Value} {L : Nat → Bool} {M : Nat} (h : Mp w0 bx L (.map (some M)) w) (hL : ∀ i,i < 78 → L i = true) (hb : BxOk bx w) {ty : Int} (ht : ty = 4 ∨ ty = 5 ∨ ty = 8 ∨ ty = 16 ∨ ty = 17 ∨ ty = 18 ∨ ty = 20 ∨ ty = 21 ∨ ty = 22) :
  ∃ g,Row w g (kinds ty) ∧
   (Instr.lookup 178 (.map (some M)) (.int .i64 ty) true).run Tryz.prog w = .ok (.tuple #[.slice (some ⟨g,0,none⟩) (kinds ty).length (kinds ty).length,.bool true]) w ∧
   (Instr.lookup 178 (.map (some M)) (.int .i64 ty) false).run Tryz.prog w = .ok (.slice (some ⟨g,0,none⟩) (kinds ty).length (kinds ty).length) w:=by
 rcases ht with rfl | rfl | rfl | rfl | rfl | rfl | rfl | rfl | rfl
 ·exact row_look h hL hb 15 35 4 [32,33,34] _ (by decide) (by kernel_rfl) (by kernel_rfl) (by decide) (by kernel_rfl)
 ·exact row_look h hL hb 19 38 5 [36,37] _ (by decide) (by kernel_rfl) (by kernel_rfl) (by decide) (by kernel_rfl)
 ·exact row_look h hL hb 31 47 8 [44,45,46] _ (by decide) (by kernel_rfl) (by kernel_rfl) (by decide) (by kernel_rfl)
 ·exact row_look h hL hb 34 49 16 [48] _ (by decide) (by kernel_rfl) (by kernel_rfl) (by decide) (by kernel_rfl)
 ·exact row_look h hL hb 41 54 17 [52,53] _ (by decide) (by kernel_rfl) (by kernel_rfl) (by decide) (by kernel_rfl)
 ·exact row_look h hL hb 49 60 18 [58,59] _ (by decide) (by kernel_rfl) (by kernel_rfl) (by decide) (by kernel_rfl)
 ·exact row_look h hL hb 37 51 20 [50] _ (by decide) (by kernel_rfl) (by kernel_rfl) (by decide) (by kernel_rfl)
 ·exact row_look h hL hb 45 57 21 [55,56] _ (by decide) (by kernel_rfl) (by kernel_rfl) (by decide) (by kernel_rfl)
 ·exact row_look h hL hb 53 63 22 [61,62] _ (by decide) (by kernel_rfl) (by kernel_rfl) (by decide) (by kernel_rfl)
theorem parts_ty (ty : Int) (ht : ty = 4 ∨ ty = 5 ∨ ty = 8 ∨ ty = 16 ∨ ty = 17 ∨ ty = 18 ∨ ty = 20 ∨ ty = 21 ∨ ty = 22) (w : World) : Calls Tryz.prog 96 #[] w fun e w'=>∃ M g,e = .returned (.map (some M)) ∧ Below w.heap.size w w' ∧ Row w' g (kinds ty) ∧
  (Instr.lookup 178 (.map (some M)) (.int .i64 ty) true).run Tryz.prog w' = .ok (.tuple #[.slice (some ⟨g,0,none⟩) (kinds ty).length (kinds ty).length,.bool true]) w':=by
 refine (parts_bx w).mono ?_
 rintro e w' ⟨M,bx,L,rfl,hM,hL,hb,n1,n2,n3,n4,n5,n6,n7,n8,n9,b1,b2,b3,b4,b5,b6,b7,b8,b9,b12,h⟩
 obtain ⟨a1,c1,a2,c2,a3,c3,a4,c4,a5,c5,a6,c6,a7,c7,a8,c8,a9,c9⟩:=h
 have hx : BxOk bx w':=⟨fun p h1 h7=>by
  have hp : p = 1 ∨ p = 2 ∨ p = 3 ∨ p = 4 ∨ p = 5 ∨ p = 6 ∨ p = 7:=by omega
  rcases hp with rfl | rfl | rfl | rfl | rfl | rfl | rfl
  ·exact ⟨n1,b1,a1,c1⟩
  ·exact ⟨n2,b2,a2,c2⟩
  ·exact ⟨n3,b3,a3,c3⟩
  ·exact ⟨n4,b4,a4,c4⟩
  ·exact ⟨n5,b5,a5,c5⟩
  ·exact ⟨n6,b6,a6,c6⟩
  ·exact ⟨n7,b7,a7,c7⟩,⟨n8,b8,a8,c8⟩⟩
 obtain ⟨g,hg,l1,_⟩:=row_ty hM hL hx ht
 exact ⟨M,g,rfl,hb,hg,l1⟩
end
end Go.Proofs.YthckbmcmdcemkaaGreatDoor.frm
