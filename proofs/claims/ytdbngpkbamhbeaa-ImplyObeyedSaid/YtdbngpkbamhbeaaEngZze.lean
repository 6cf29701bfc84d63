import Derived.Test.YtdbngpkbamhbeaaEngZh
import Derived.Test.YtdbngpkbamhbeaaEngR
set_option linter.unusedSimpArgs false
set_option linter.unusedVariables false
set_option linter.unusedSectionVars false
namespace Go.Proofs.Ytdbngpkbamhbeaa
open Go.ChangeShapes Go.WideShapes Go.RowKit Go.Deep
/-- One of them. -/
abbrev ruA (e : Int × Int) : AV := .agg [.val (.int .i64 e.1), .val (.int .i64 e.2)]
section
variable {H : Type} {enc : TypeId × Value → H} {P : Program} {w : World} {base : Nat} {spare : Nat → Bool} {held : Bool} {fuel : Nat} {cs : List Value} {x : DataW H × List MemPlace} {t e : TypeId}
theorem flatten_rul (l : List (Int × Int)) : (l.map fun p => [Dat.val (.int .i64 p.1), Dat.val (.int .i64 p.2)]).flatten = pairc l := by
  induction l with
  | nil => rfl
  | cons a r ih => rw [List.map_cons, List.flatten_cons, ih]; rfl
theorem rd_rules {f0 f1 : Field} (ht : P.underlying t = some (.slice e)) (he : P.underlying e = some (.struct #[f0, f1])) (o0 : f0.offset = 0) (o1 : f1.offset = 1) (h0 : P.underlying f0.type = some (.int .i64)) (h1 : P.underlying f1.type = some (.int .i64))
    (c0 : P.cellsOf f0.type = 1) (c1 : P.cellsOf f1.type = 1) (hc : P.cellsOf e = 2) (h : DataW.trod enc P w base spare held fuel t cs = some x) :
    ∃ v l, cs = [v] ∧ Rd w noM v (.sl 2 (pairc l)) ∧ (∀ x ∈ l, I64 x.1 ∧ I64 x.2) ∧ l.length ≤ big := by
  obtain ⟨v, dss, h1', h2', h3', h4'⟩ := rd_slice ht hc (fun ds => ∃ p : Int × Int, ds = [Dat.val (.int .i64 p.1), Dat.val (.int .i64 p.2)] ∧ (I64 p.1 ∧ I64 p.2)) (fun n cs' x hx => by
    obtain ⟨xs, m, _, _, h5, hlen, hg⟩ := DataW.trod_struct he hx
    rw [hc] at h5
    match cs', h5, xs, hlen with
    | [v0, v1], _, [x0, x1], _ =>
      have g0 := hg 0 f0 rfl
      have g1 := hg 1 f1 rfl
      simp [o0, o1, c0, c1] at g0 g1
      obtain ⟨a0, e0, b0⟩ := rd_int h0 g0
      obtain ⟨a1, e1, b1⟩ := rd_int h1 g1
      simp at e0 e1
      subst e0; subst e1
      refine ⟨[.val (.int .i64 a0), .val (.int .i64 a1)], rfl, fun j v d hv hd => ?_, (a0, a1), rfl, b0, b1⟩
      match j with
      | 0 => simp at hv hd; subst hv; subst hd; exact .val _
      | 1 => simp at hv hd; subst hv; subst hd; exact .val _
      | j + 2 => simp at hv) h
  obtain ⟨l, rfl, hl, hn⟩ := gather h3'
  rw [flatten_rul] at h2'
  exact ⟨v, l, h1', h2', hl, by omega⟩
end
section
variable {H : Type} {enc : TypeId × Value → H} {P : Program} {w : World} {base : Nat} {spare : Nat → Bool} {held : Bool} {t e : TypeId} {v : Value} {d : DataW H} {ps : List MemPlace} {r : Reach} {b0 : Nat}
theorem arg_rules {f0 f1 : Field} (ht : P.underlying t = some (.slice e)) (he : P.underlying e = some (.struct #[f0, f1])) (o0 : f0.offset = 0) (o1 : f1.offset = 1) (h0 : P.underlying f0.type = some (.int .i64)) (h1 : P.underlying f1.type = some (.int .i64))
    (c0 : P.cellsOf f0.type = 1) (c1 : P.cellsOf f1.type = 1) (hc : P.cellsOf e = 2) (hval : Value.okWide P w r b0 t v) (hd : DataW.Trod enc P w base spare held t v d ps) :
    ∃ l, Rd w noM v (.sl 2 (pairc l)) ∧ (∀ x ∈ l, I64 x.1 ∧ I64 x.2) ∧ l.length ≤ big := by
  obtain ⟨fuel, hf⟩ := hd
  obtain ⟨u, l, h1, h2, h3, h4⟩ := rd_rules ht he o0 o1 h0 h1 c0 c1 hc hf
  rw [ok_slice ht hval] at h1
  simp at h1
  exact ⟨l, h1 ▸ h2, h3, h4⟩
theorem arg_rule {f0 f1 : Field} (ht : P.underlying t = some (.struct #[f0, f1])) (hC : P.cellsOf t = 2) (o0 : f0.offset = 0) (o1 : f1.offset = 1) (h0 : P.underlying f0.type = some (.int .i64)) (c0 : P.cellsOf f0.type = 1)
    (h1 : P.underlying f1.type = some (.int .i64)) (c1 : P.cellsOf f1.type = 1) (hval : Value.okWide P w r b0 t v) (hd : DataW.Trod enc P w base spare held t v d ps) :
    ∃ e : Int × Int, v = .agg #[.int .i64 e.1, .int .i64 e.2] ∧ I64 e.1 ∧ I64 e.2 := by
  obtain ⟨cs, rfl, hsz⟩ := okWide_struct ht hval
  obtain ⟨fuel, hf⟩ := hd
  obtain ⟨l⟩ := cs
  match l, hsz.trans hC with
  | [v0, v1], _ =>
    obtain ⟨xs, m, _, _, h5, hlen, hg⟩ := DataW.trod_struct ht hf
    match xs, hlen with
    | [x0, x1], _ =>
      have g0 := hg 0 f0 rfl
      have g1 := hg 1 f1 rfl
      simp [Value.cells, o0, o1, c0, c1] at g0 g1
      obtain ⟨a0, e0, b0⟩ := rd_int h0 g0
      obtain ⟨a1, e1, b1⟩ := rd_int h1 g1
      simp at e0 e1
      subst e0; subst e1
      exact ⟨(a0, a1), rfl, b0, b1⟩
theorem gm_rule {e : Int × Int} : Gm [] w (Ban [] []) (ruA e) (.agg #[.int .i64 e.1, .int .i64 e.2]) :=
  .agg _ _ rfl fun i av v h1 h2 => by
    match i with
    | 0 => simp at h1 h2; subst h1; subst h2; exact .val _
    | 1 => simp at h1 h2; subst h1; subst h2; exact .val _
    | i + 2 => simp at h1
end
end Go.Proofs.Ytdbngpkbamhbeaa
