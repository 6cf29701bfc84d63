import Derived.Test.YtbgecpjlopdkfaaDoorEngR
import Derived.Test.YtbgecpjlopdkfaaDoorEngZj
set_option linter.unusedSimpArgs false
set_option linter.unusedVariables false
set_option linter.unusedSectionVars false
namespace Go.Proofs.YtbgecpjlopdkfaaDoor
open Go.ChangeShapes Go.WideShapes Go.RowKit
section
variable {H : Type} {enc : TypeId × Value → H} {P : Program} {w : World} {base : Nat} {spare : Nat → Bool} {held : Bool} {t e a : TypeId} {r : Go.Reach} {b0 : Nat} {v : Value} {d : DataW H} {ps : List MemPlace}
/-- A struct of a number and two tables. -/
theorem arg_lat {f0 f1 f2 : Field} (ht : P.underlying t = some (.struct #[f0, f1, f2])) (hC : P.cellsOf t = 3) (o0 : f0.offset = 0) (o1 : f1.offset = 1) (o2 : f2.offset = 2) (h0 : P.underlying f0.type = some (.int .i64)) (c0 : P.cellsOf f0.type = 1)
    (h1 : P.underlying f1.type = some (.slice e)) (c1 : P.cellsOf f1.type = 1) (h2 : P.underlying f2.type = some (.slice e)) (c2 : P.cellsOf f2.type = 1) (he : P.underlying e = some (.slice a)) (ha : P.underlying a = some (.int .i64)) (hc : P.cellsOf e = 1) (hca : P.cellsOf a = 1)
    (hval : Value.okWide P w r b0 t v) (hd : DataW.Trod enc P w base spare held t v d ps) :
    ∃ N m j u u', v = .agg #[.int .i64 N, u, u'] ∧ Rd w noM u (.sl 1 (rowc m)) ∧ Rd w noM u' (.sl 1 (rowc j)) ∧ I64 N ∧ ((∀ r ∈ m, (∀ x ∈ r, I64 x) ∧ r.length ≤ big) ∧ m.length ≤ big) ∧ (∀ r ∈ j, (∀ x ∈ r, I64 x) ∧ r.length ≤ big) ∧ j.length ≤ big := by
  obtain ⟨cs, rfl, hsz⟩ := okWide_struct ht hval
  obtain ⟨fuel, hf⟩ := hd
  obtain ⟨l⟩ := cs
  match l, hsz.trans hC with
  | [a0, a1, a2], _ =>
    obtain ⟨xs, n, _, _, _, hlen, hg⟩ := DataW.trod_struct ht hf
    match xs, hlen with
    | [x0, x1, x2], _ =>
      have g0 := hg 0 f0 rfl
      have g1 := hg 1 f1 rfl
      have g2 := hg 2 f2 rfl
      simp [Value.cells, o0, o1, o2, c0, c1, c2] at g0 g1 g2
      obtain ⟨N, e0, b0⟩ := rd_int h0 g0
      obtain ⟨u, l, e1, b1, b2, b3⟩ := rd_rows h1 he ha hc hca g1
      obtain ⟨u', l', e2, d1, d2, d3⟩ := rd_rows h2 he ha hc hca g2
      simp at e0 e1 e2
      subst e0; subst e1; subst e2
      exact ⟨N, l, l', a1, a2, rfl, b1, d1, b0, ⟨b2, b3⟩, d2, d3⟩
end
theorem gm_lat {w : World} {u u' : Value} {N : Int} {m j : List (List Int)} (h : Rd w noM u (.sl 1 (rowc m))) (h' : Rd w noM u' (.sl 1 (rowc j))) : Gm [] w (Ban [] []) (latA N m j) (.agg #[.int .i64 N, u, u']) :=
  .agg _ _ rfl fun i av v h1 h2 => by
    match i with
    | 0 => simp at h1 h2; subst h1; subst h2; exact .val _
    | 1 => simp at h1 h2; subst h1; subst h2; exact gm_rows h
    | 2 => simp at h1 h2; subst h1; subst h2; exact gm_rows h'
    | i + 3 => simp at h1
end Go.Proofs.YtbgecpjlopdkfaaDoor
