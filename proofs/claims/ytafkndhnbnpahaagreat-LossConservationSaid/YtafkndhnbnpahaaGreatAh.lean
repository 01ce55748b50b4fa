/- Law 13: a slice of spans that comes as an argument, opened. -/
import Derived.Test.YtafkndhnbnpahaaGreatZh
import Derived.Test.YtafkndhnbnpahaaGreatStructs
namespace Go.Proofs.YtafkndhnbnpahaaGreat
open Go.RowKit Go.WideShapes Go.ChangeShapes
set_option maxRecDepth 100000 in
theorem sp_arg {H : Type} {enc : TypeId × Value → H} {W : World} {base : Nat} {held : Bool} {v : Value} {d : DataW H} {p : List MemPlace} (hv : Value.okWide Tryz.prog W .any base 27 v) (h : DataW.Trod enc Tryz.prog W 0 (fun _ => true) held 27 v d p) :
    ∃ n F T, SpArg W v n F T ∧ n ≤ 9223372036854775807 := by
  obtain ⟨a, len, cap, rfl, hl, hx⟩ := int_structs_at Tryz.underlying27 Tryz.underlying51 (by kernel_rfl) (by kernel_rfl) (by decide) Tryz.underlying3 (fun j f hf => by
    match j, hf with
    | 0, hf => cases hf; rfl
    | 1, hf => cases hf; rfl
    | n + 2, hf => simp at hf) hv h
  rcases hx with h0 | ⟨b, off, rfl, hm, hc⟩
  · subst h0
    exact ⟨0, fun _ => 0, fun _ => 0, ⟨a, cap, rfl, hl, .inl rfl⟩, by decide⟩
  · refine ⟨len, fun k => numAt W b (off + (k * 2 + 0)), fun k => numAt W b (off + (k * 2 + 1)), ⟨_, cap, rfl, hl, .inr ⟨b, off, rfl, hm, fun k hk => ?_⟩⟩, by unfold maxLen at hm; omega⟩
    have h1 := hc k hk 0 (by decide)
    have h2 := hc k hk 1 (by decide)
    exact ⟨h1.1, h2.1, h1.2, h2.2⟩
end Go.Proofs.YtafkndhnbnpahaaGreat
