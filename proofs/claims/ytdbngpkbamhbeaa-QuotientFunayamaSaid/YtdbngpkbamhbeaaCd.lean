import Derived.Test.YtdbngpkbamhbeaaEngA
import Derived.Test.YtdbngpkbamhbeaaCc
import Derived.Test.YtdbngpkbamhbeaaEngZzi
set_option linter.unusedSimpArgs false
set_option linter.unusedVariables false
set_option linter.unusedSectionVars false
namespace Go.Proofs.Ytdbngpkbamhbeaa
theorem AC.vw0 {P : Program} {f : FuncId} {args : List AV} {res res2 : AV} {objs' : List AO} (h : AC P f args [] res objs') (hv : Vw objs' [] res res2) : AC P f args [] res2 [] := by
  obtain ⟨h1, h2⟩ := h
  refine ⟨h1, ?_⟩
  intro _ ρ w vs hg hsz ha
  refine Calls.mono (h2 ρ w vs hg hsz ha) ?_
  rintro e w' ⟨v, ρ', he, hs, hg', hm, hid, hown⟩
  have hρ : ρ = [] := List.eq_nil_of_length_eq_zero (by have := hg.len; simpa using this)
  have ho : VwOs objs' [] [] := VwOs.mk (by decide) trivial
  refine ⟨v, [], he, hs, ?_, ?_, ?_, ?_⟩
  · have := hg'.view ho; exact this
  · have := hv.gm hg' ho v hm; exact this
  · intro id l hl; subst hρ; exact hl
  · rintro b ⟨id, o, l, h1, _⟩ _
    simp at h1
end Go.Proofs.Ytdbngpkbamhbeaa
set_option linter.unusedSimpArgs false
set_option linter.unusedVariables false
set_option linter.unusedSectionVars false
set_option maxRecDepth 20000
namespace Go.Proofs.Ytdbngpkbamhbeaa
attribute [local irreducible] QOp aL aC qL
theorem idxOf_min {x : Nat} : ∀ (S : List Nat) (i : Nat), i < S.idxOf x → S.getD i 0 ≠ x ∨ S.length ≤ i
  | [], i, h => .inr (Nat.zero_le _)
  | y :: r, i, h => by
    rw [List.idxOf_cons] at h
    cases hq : y == x with
    | true => rw [hq] at h; exact absurd h (Nat.not_lt_zero _)
    | false =>
      rw [hq] at h
      have hyx : y ≠ x := by simpa using hq
      cases i with
      | zero => exact .inl hyx
      | succ i =>
        rcases idxOf_min r i (by simp at h; omega) with h1 | h1
        · exact .inl h1
        · exact .inr (by rw [List.length_cons]; omega)
theorem idx_of (S : List Nat) (x : Nat) : idx (fun y => decide (y = (x : Int))) (nl S) = if x ∈ S then (S.idxOf x : Int) else -1 := by
  split
  · rename_i hm
    have hl := List.idxOf_lt_length_iff.2 hm
    have hnl : ∀ i (h : i < (nl S).length), (nl S)[i] = ((S.getD i 0 : Nat) : Int) := fun i h => by
      have h' : i < S.length := by rwa [nl_len] at h
      rw [List.getD_eq_getElem?_getD, List.getElem?_eq_getElem h', Option.getD_some]
      simp only [nl, List.getElem_map]
    refine idx_some (by rw [nl_len]; exact hl) (fun i h1 h2 => ?_) ?_
    · rw [hnl i h1, decide_eq_false]
      intro e
      have := idxOf_min S i h2
      rw [nl_len] at h1
      rcases this with h3 | h3
      · exact h3 (by omega)
      · omega
    · rw [hnl _ (by rw [nl_len]; exact hl), decide_eq_true]
      rw [List.getD_eq_getElem?_getD, List.getElem?_eq_getElem hl, Option.getD_some, List.getElem_idxOf hl]
  · rename_i hm
    refine idx_none fun i h => decide_eq_false fun e => hm ?_
    rw [nl_len] at h
    simp only [nl, List.getElem_map] at e
    have : S[i] = x := by omega
    rw [← this]; exact List.getElem_mem h
theorem seenC_len (c : List Nat) : ∀ k, (seenC c k).length ≤ k
  | 0 => Nat.le_refl _
  | k + 1 => by
    have := seenC_len c k
    rw [seenC]; split
    · omega
    · rw [List.length_append, List.length_singleton]; omega
end Go.Proofs.Ytdbngpkbamhbeaa
