import Derived.Test.YtdbngpkbamhbeaaZb
set_option linter.unusedSimpArgs false
set_option linter.unusedVariables false
set_option linter.unusedSectionVars false
set_option maxRecDepth 20000
namespace Go.Proofs.Ytdbngpkbamhbeaa
attribute [local irreducible] QOp aL aC qL
section
variable {P : Program} {st : St} {d : Option Tmp} {ty : TypeId} {pos : String} {af : Array Edge} {g : Option (Nat × Bool)}
/-- Two cells of an own row of pairs. -/
theorem Q_ld_ownP {x : Operand} {T e : TypeId} {l : List (Nat × Nat)} {id o : Nat} (hx : st.ev x = .ept id (o * 2)) (hob : st.objs[id]? = some (.row e 2 (pairc (pn l)))) (h : o < l.length) (ht : AgT P T 2) :
    QOp P ⟨d, .load T x, ty, pos, af, g⟩ st (.agg [.val (.int .i64 ((l.getD o (0, 0)).1 : Int)), .val (.int .i64 ((l.getD o (0, 0)).2 : Int))]) :=
  .run fun ρ w a hr => by
    have h' := hr.ev x
    rw [hx] at h'
    obtain ⟨b, n, cap, l', he, hl⟩ := h'.ept_inv
    obtain ⟨hρ, hrow⟩ := row_cells hr.good hob (.own id _ l' hl rfl)
    rcases hrow with ⟨h1, _⟩ | ⟨b', n', cap', h1, h2, h3, _, h4⟩
    · cases h1
    · cases h1
      have hg := pairc_get (l := pn l) (o := o) (by rw [pn_len]; exact h)
      rw [pn_get] at hg
      obtain ⟨v0, hv0, hr0⟩ := h4 (o * 2) _ hg.1
      obtain ⟨v1, hv1, hr1⟩ := h4 (o * 2 + 1) _ hg.2
      refine ⟨.agg #[v0, v1], .agg _ _ rfl fun i av v h5 h6 => ?_, fun w1 hw => ?_⟩
      · match i, h5, h6 with
        | 0, h5, h6 =>
          obtain rfl := Option.some.inj h5
          obtain rfl := Option.some.inj h6
          exact gm_ofD hr0
        | 1, h5, h6 =>
          obtain rfl := Option.some.inj h5
          obtain rfl := Option.some.inj h6
          exact gm_ofD hr1
      · have c0 : w1.cell? ⟨b, o * 2, none⟩ = some v0 := by rw [hw.cell (p := ⟨b, o * 2, none⟩) h3]; exact hv0
        have c1 : w1.cell? ⟨b, o * 2 + 1, none⟩ = some v1 := by rw [hw.cell (p := ⟨b, o * 2 + 1, none⟩) h3]; exact hv1
        have := run_loadAgg (P := P) (w := w1) ht ⟨b, o * 2, none⟩ [v0, v1] rfl fun j v hv => by
          match j, hv with
          | 0, hv => obtain rfl := Option.some.inj hv; exact c0
          | 1, hv => obtain rfl := Option.some.inj hv; exact c1
        simp [execOp, he, Instr.loadAt, Instr.sureAddr, this]
theorem Q_ix_ownP {x ix : Operand} {T e e' : TypeId} {l : List (Nat × Nat)} {id : Nat} {i : Int} {o : Nat} (hx : st.ev x = .own id) (hob : st.objs[id]? = some (.row e' 2 (pairc (pn l)))) (hi : st.ev ix = .val (.int .i64 i)) (ho : i = (o : Int)) (ht : SlT P T e 2) (h : o < l.length) :
    QOp P ⟨d, .indexAddr T x ix, ty, pos, af, g⟩ st (.ept id (o * 2)) := by
  have := Q_index_own (P := P) (d := d) (ty := ty) (pos := pos) (af := af) (g := g) (x := x) (ix := ix) hx hob hi ht (pairc_len (pn l)) (by decide) ⟨by omega, by rw [pn_len]; omega⟩
  rw [show i.toNat * 2 = o * 2 by omega] at this
  exact this
end
/-- Sets and what follows from them. -/
def rlP (cl : Nat → Nat) (T : List Nat) : List (Nat × Nat) := T.map fun t => (t, cl t)
end Go.Proofs.Ytdbngpkbamhbeaa
