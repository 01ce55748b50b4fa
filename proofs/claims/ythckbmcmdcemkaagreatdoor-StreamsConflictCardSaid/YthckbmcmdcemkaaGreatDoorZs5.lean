/- Texts of this claim, one behind the other: ZUc. -/
import Derived.Test.YthckbmcmdcemkaaGreatDoorBs41
import Derived.Test.YthckbmcmdcemkaaGreatDoorZs4
import Derived.Test.YthckbmcmdcemkaaGreatDoorZs2
import Derived.Test.YthckbmcmdcemkaaGreatDoorZs1
import Derived.Test.YthckbmcmdcemkaaGreatDoorZs3
set_option maxRecDepth 100000
set_option maxHeartbeats 16000000
set_option linter.unusedSimpArgs false
set_option linter.unusedVariables false
namespace Go.Proofs.YthckbmcmdcemkaaGreatDoor.stm
section
open Go.RowKit Go.Maps
def FsOk (n : Nat) (r : Bool) (W w : World) (a : SetA) (R : List (Nat × Obj)) : Prop:=∃ i wn,(match r with | true=>Rs n i | false=>Fin n i) ∧ wn.most = 1000 ∧ Mn W w a (vS i wn n) R
section
variable {W w w' : World} {a : SetA} {R : List (Nat × Obj)} {n m k : Nat} {r : Bool} {a0 a1 a2 a3 : Addr}
theorem FsOk.below (h : FsOk n r W w a R) : Below W.heap.size W w:=by
 obtain ⟨i,wn,h1,h2,h3⟩:=h
 exact h3.below
theorem FsOk.row (h : FsOk n r W w a R) {x : Nat × Obj} (hx : x ∈ R) : w.heap[x.1]? = some x.2:=by
 obtain ⟨i,wn,h1,h2,h3⟩:=h
 exact h3.row hx
theorem szE (n : Int) : (fEnd n).s.size ≤ 8192:=by show 0 ≤ 8192;decide
theorem szX (n : Int) : (fX n).s.size ≤ 8192:=by show 1 ≤ 8192;decide
theorem vRs {c : Int} (hn : n ≤ 1000) (hc : 0 ≤ c ∧ c ≤ 1000) : frm.FrV (fReset 2 c n):=v_reset (by decide) (by omega) (by omega)
theorem fs_first (h : Mn W w a u0 R) (hn : n ≤ 100) (hE : rea.Errs W a0 a1 a2 a3) (hA : rea.Apt W a0 a1) : ∀ r : Bool,Calls Tryz.prog 24 #[ptr a.sb,(match r with | true=>fRs n | false=>fEnd n : Fr).val] w fun e w'=>e = .returned (.int .i64 0) ∧ FsOk n r W w' a R
 | false=>by
  have F:=fin_step (n:=n) (i:=j0) (by show (0 : Int) ≤ n;omega) (by show (0 : Int) ≤ n;omega) rfl rfl rfl rfl rfl (.inl rfl)
  refine (u_data h cn_u0 (fEnd n) (vEnd (by omega) (by omega)) rfl rfl (by show (0 : Int) ≤ n;omega) (by show (n : Int) + 0 ≤ _;omega) (szE _) (by decide) (by decide) (by decide) (by decide) (by decide) (by decide) hE hA rfl rfl (j0_end hn) F.dn).mono fun e w' hh=>⟨hh.1,_,u0.wn.recH n,F,rfl,?_⟩
  ·have h2:=hh.2
   rw [end_le] at h2
   have e1 : (0 : Int) + (cntN j0 (n : Int) - j0.cn) = n:=by
    show (0 : Int) + ((if (0 : Int) < n then (n : Int) else 0) - 0) = n
    split <;> omega
   rw [e1] at h2
   exact h2
 | true=>by
  have F:=j0_rs (n:=n)
  refine (u_reset h cn_u0 (fRs n) (vRs (by omega) (by decide)) rfl rfl (by show (0 : Int) ≤ n ∧ (n : Int) ≤ _;omega) (by decide) (by decide) (j0_rst hn) rfl (by decide) F.dn).mono fun e w' hh=>⟨hh.1,_,(u0.wn.recH n).read n,F,?_,?_⟩
  ·unfold Rcr.read;split <;> rfl
  ·have h2:=hh.2
   have e1 : (0 : Int) + (cntN j0 (fRs (n : Int)).max - j0.cn) = n:=by
    show (0 : Int) + ((if (0 : Int) < n then (n : Int) else 0) - 0) = n
    split <;> omega
   rw [e1] at h2
   have e2 : (fRs (n : Int)).max - (j0.R.at_ : Int) = n:=by show (n : Int) - 0 = n;omega
   rw [e2] at h2
   exact h2
theorem fs_end (hn : n ≤ 100) (hm : m ≤ 199) (hE : rea.Errs W a0 a1 a2 a3) (hA : rea.Apt W a0 a1) : ∀ (r : Bool) (_ : FsOk n r W w a R),Calls Tryz.prog 24 #[ptr a.sb,(fEnd m).val] w fun e w'=>e = .returned (.int .i64 (if m = n then 0 else 161)) ∧ FsOk n r W w' a R
 | false,⟨i,wn,F,hw,h⟩=>by
  have hd:=F.end (wn:=wn) (tot:=n) hn hm hw rfl
  have b0 : (0 : Int) ≤ (fEnd (m : Int)).off:=by show (0 : Int) ≤ m;omega
  have b1 : (fEnd (m : Int)).off + ((fEnd (m : Int)).s.size : Nat) ≤ 1099511627776:=by show (m : Int) + 0 ≤ _;omega
  have b2 : 0 ≤ i.cn ∧ i.cn ≤ maxOff:=by rw [F.cn];exact mo (by omega)
  by_cases e : m = n
  ·subst e
   rw [if_pos rfl] at hd ⊢
   have F2:=fin_step (n:=m) (i:=i) (by rw [F.cn];omega) (by rw [F.hi];omega) F.at0 F.hs F.bl F.ms F.st (.inr F.rc)
   refine (u_data h (cn_vS _ _ _) (fEnd m) (vEnd (by omega) (by omega)) rfl rfl b0 b1 (szE _) b2 (mo (by omega)) (by rw [F.at0];decide) (by rw [F.cn,F.ms];omega) (by rw [hw];omega) (by rw [F.ms,F.at0,F.bl];decide) hE hA F.notR F.st hd F2.dn).mono fun e w' hh=>⟨hh.1,_,wn.recH m,F2,hw,?_⟩
   ·have h2:=hh.2
    rw [end_le] at h2
    have e1 : (m : Int) + (cntN i (m : Int) - i.cn) = m:=by
     unfold cntN
     rw [F.cn]
     split <;> omega
    rw [e1] at h2
    exact h2
  ·rw [if_neg e] at hd ⊢
   refine (u_data_no h (cn_vS _ _ _) (fEnd m) (vEnd (by omega) (by omega)) rfl rfl b0 b1 (szE _) b2 (mo (by omega)) (by rw [F.at0];decide) hE hA (.inr (by rw [hd];decide)) F.dn).mono fun e w' hh=>⟨by rw [hh.1,hd],i,wn,F,hw,hh.2⟩
 | true,⟨i,wn,F,hw,h⟩=>by
  have hd:=F.end (wn:=wn) (tot:=n) (m:=m)
  have b0 : (0 : Int) ≤ (fEnd (m : Int)).off:=by show (0 : Int) ≤ m;omega
  have b1 : (fEnd (m : Int)).off + ((fEnd (m : Int)).s.size : Nat) ≤ 1099511627776:=by show (m : Int) + 0 ≤ _;omega
  have b2 : 0 ≤ i.cn ∧ i.cn ≤ maxOff:=by rw [F.cn];exact mo (by omega)
  refine (u_data_no h (cn_vS _ _ _) (fEnd m) (vEnd (by omega) (by omega)) rfl rfl b0 b1 (szE _) b2 (mo (by omega)) (by rw [F.at0];decide) hE hA (.inl F.was) F.dn).mono fun e w' hh=>⟨by rw [hh.1,hd],i,wn,F,hw,hh.2⟩
theorem fs_x (hn : n ≤ 100) (hE : rea.Errs W a0 a1 a2 a3) (hA : rea.Apt W a0 a1) : ∀ (r : Bool) (_ : FsOk n r W w a R),Calls Tryz.prog 24 #[ptr a.sb,(fX n).val] w fun e w'=>e = .returned (.int .i64 161) ∧ FsOk n r W w' a R
 | false,⟨i,wn,F,hw,h⟩=>by
  have hd:=F.x (wn:=wn) (tot:=n) hn hw rfl
  refine (u_data_no h (cn_vS _ _ _) (fX n) (vXx (by omega) (by omega)) rfl rfl (by show (0 : Int) ≤ n;omega) (by show (n : Int) + 1 ≤ _;omega) (szX _) (by rw [F.cn];exact mo (by omega)) (mo (by omega)) (by rw [F.at0];decide) hE hA (.inr (by rw [hd];decide)) F.dn).mono fun e w' hh=>⟨by rw [hh.1,hd],i,wn,F,hw,hh.2⟩
 | true,⟨i,wn,F,hw,h⟩=>by
  have hd:=F.x (wn:=wn) (tot:=n)
  refine (u_data_no h (cn_vS _ _ _) (fX n) (vXx (by omega) (by omega)) rfl rfl (by show (0 : Int) ≤ n;omega) (by show (n : Int) + 1 ≤ _;omega) (szX _) (by rw [F.cn];exact mo (by omega)) (mo (by omega)) (by rw [F.at0];decide) hE hA (.inl F.was) F.dn).mono fun e w' hh=>⟨by rw [hh.1,hd],i,wn,F,hw,hh.2⟩
theorem fs_rst (hn : n ≤ 100) (hk : k ≠ n) (hk2 : k ≤ 1000) : ∀ (r : Bool) (_ : FsOk n r W w a R),Calls Tryz.prog 24 #[ptr a.sb,(fReset 2 6 k).val] w fun e w'=>e = .returned (.int .i64 161) ∧ FsOk n r W w' a R
 | false,⟨i,wn,F,hw,h⟩=>by
  have hd:=F.rst (wn:=wn) (tot:=n) hk
  refine (u_reset_no h (cn_vS _ _ _) (fReset 2 6 k) (vRs (by omega) (by decide)) rfl rfl (by show (0 : Int) ≤ k ∧ (k : Int) ≤ _;omega) (by rw [F.cn];exact mo (by omega)) (mo (by omega)) (.inl (by show rstEP _ i (k : Int) ≠ 0;rw [hd];decide)) F.dn).mono fun e w' hh=>⟨by rw [hh.1];show Ending.returned (.int .i64 (rstEP _ i (k : Int))) = _;rw [hd],i,wn,F,hw,hh.2⟩
 | true,⟨i,wn,F,hw,h⟩=>by
  have hd:=F.rst (wn:=wn) (tot:=n) hk
  refine (u_reset_no h (cn_vS _ _ _) (fReset 2 6 k) (vRs (by omega) (by decide)) rfl rfl (by show (0 : Int) ≤ k ∧ (k : Int) ≤ _;omega) (by rw [F.cn];exact mo (by omega)) (mo (by omega)) (.inr F.opn) F.dn).mono fun e w' hh=>⟨by rw [hh.1];show Ending.returned (.int .i64 (rstEP _ i (k : Int))) = _;rw [hd],i,wn,F,hw,hh.2⟩
theorem fs_again (hn : n ≤ 100) (hE : rea.Errs W a0 a1 a2 a3) (hA : rea.Apt W a0 a1) : ∀ (r : Bool) (_ : FsOk n r W w a R),Calls Tryz.prog 24 #[ptr a.sb,(match r with | true=>fRs n | false=>fEnd n : Fr).val] w fun e w'=>e = .returned (.int .i64 0) ∧ FsOk n r W w' a R
 | false,h=>by
  have:=fs_end hn (show n ≤ 199 by omega) hE hA false h
  rw [if_pos rfl] at this
  exact this
 | true,⟨i,wn,F,hw,h⟩=>by
  have hd:=F.rst0 (wn:=wn) (tot:=n) hn hw rfl
  refine (u_reset_no h (cn_vS _ _ _) (fRs n) (vRs (by omega) (by decide)) rfl rfl (by show (0 : Int) ≤ n ∧ (n : Int) ≤ _;omega) (by rw [F.cn];exact mo (by omega)) (mo (by omega)) (.inr F.opn) F.dn).mono fun e w' hh=>⟨by rw [hh.1];show Ending.returned (.int .i64 (rstEP _ i (n : Int))) = _;rw [hd],i,wn,F,hw,hh.2⟩
end
end
end Go.Proofs.YthckbmcmdcemkaaGreatDoor.stm
