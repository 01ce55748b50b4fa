/- Texts of this claim, one behind the other: ZRpa. -/
import Derived.Test.YthckbmcmdcemkaaGreatDoorBs13
import Derived.Test.YthckbmcmdcemkaaGreatDoorBs1
set_option maxRecDepth 100000
set_option maxHeartbeats 16000000
set_option linter.unusedSimpArgs false
set_option linter.unusedVariables false
namespace Go.Proofs.YthckbmcmdcemkaaGreatDoor.rea
theorem ovl_of {a off : Int} {w n i k : Nat} (hi : i < n) (hk : k < w) (h : off + (i : Int) = a + (k : Int)) : (i,k) ∈ ovl a off w n:=by
 simp only [ovl,List.mem_map,List.mem_range]
 refine ⟨i - ovA a off,?_,?_⟩
 ·unfold ovB;unfold ovA;omega
 ·simp only [Prod.mk.injEq];unfold ovA;omega
theorem agF_true {a off : Int} {bs : List Int} {hs : List Bool} {s : List Int} (h : ∀ i k,i < s.length → k < bs.length → off + (i : Int) = a + (k : Int) → hg hs k = true → gd bs k = gd s i) : agF a bs hs off s = true:=by
 unfold agF
 rw [List.all_eq_true]
 intro x hx
 obtain ⟨h1,h2,h3⟩:=ovl_mem hx
 unfold agAt
 cases e : hg hs x.2
 ·rfl
 ·rw [h _ _ h1 h2 h3 e];simp
theorem readyF_is {l : List Bool} {n : Nat} (hn : n ≤ l.length) (h : ∀ k,k < n → hg l k = true) (hz : n < l.length → hg l n = false) : readyF l = n:=by
 have h1:=readyF_le l
 rcases Nat.lt_trichotomy (readyF l) n with e | e | e
 ·have:=readyF_at l (by omega)
  rw [h _ e] at this;cases this
 ·exact e
 ·have:=readyF_lt l n e
  rw [hz (by omega)] at this;cases this
end Go.Proofs.YthckbmcmdcemkaaGreatDoor.rea
