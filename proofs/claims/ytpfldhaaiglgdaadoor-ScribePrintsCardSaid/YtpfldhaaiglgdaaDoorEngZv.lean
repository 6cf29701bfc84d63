import Derived.Test.YtpfldhaaiglgdaaDoorEngZr
set_option linter.unusedSimpArgs false
set_option linter.unusedVariables false
set_option linter.unusedSectionVars false
namespace Go.Proofs.YtpfldhaaiglgdaaDoor
open Go.RowKit
section
/-! What hangs on the heads of the objects' values alone. -/
theorem Gm.heads {ρ ρ' : Ids} {w : World} {M : Nat → Prop} (hh : ∀ (id : Nat) (v : Value) l, ρ[id]? = some (v :: l) → ∃ l', ρ'[id]? = some (v :: l')) {av : AV} {u : Value} (h : Gm ρ w M av u) : Gm ρ' w M av u := by
  induction h with
  | val v => exact .val v
  | ro d v hr => exact .ro d v hr
  | own id v l hv h1 => obtain ⟨l', h'⟩ := hh _ _ _ hv; exact .own id v l' h' h1
  | ptr id off b l hv => obtain ⟨l', h'⟩ := hh _ _ _ hv; exact .ptr id off b l' h'
  | ept id k b n cap l hv => obtain ⟨l', h'⟩ := hh _ _ _ hv; exact .ept id k b n cap l' h'
  | rpt a cs off us hsp hMk hc hr => exact .rpt a cs off us hsp hMk hc hr
  | agg l vs hl _ ih => exact .agg l vs hl ih
  | tup l vs hl _ ih => exact .tup l vs hl ih
  | clo f l vs hl _ ih => exact .clo f l vs hl ih
  | any v => exact .any v
theorem SatO.heads {ρ ρ' : Ids} {w : World} {M : Nat → Prop} {id : Nat} {o : AO} (h : SatO ρ w M id o) (hi : ρ'[id]? = ρ[id]?) (hh : ∀ (id : Nat) (v : Value) l, ρ[id]? = some (v :: l) → ∃ l', ρ'[id]? = some (v :: l')) : SatO ρ' w M id o := by
  cases o with
  | box cs =>
    obtain ⟨b, arr, T, h1, h2, h3, h4⟩ := h
    refine ⟨b, arr, T, hi.trans h1, h2, h3, fun i av hj => ?_⟩
    obtain ⟨v, hv, hg⟩ := h4 i av hj
    exact ⟨v, hv, hg.heads hh⟩
  | row e sz cs => obtain ⟨v, n, us, h1, h2⟩ := h; exact ⟨v, n, us, hi.trans h1, h2⟩
  | mat e e' m => obtain ⟨v, us, h1, h2⟩ := h; exact ⟨v, us, hi.trans h1, h2⟩
  | mp m => obtain ⟨v, us, h1, h2⟩ := h; exact ⟨v, us, hi.trans h1, h2⟩
  | bld T e cs => obtain ⟨b, v, h1, h2⟩ := h; exact ⟨b, v, hi.trans h1, h2⟩
  | gone => trivial
end
end Go.Proofs.YtpfldhaaiglgdaaDoor
