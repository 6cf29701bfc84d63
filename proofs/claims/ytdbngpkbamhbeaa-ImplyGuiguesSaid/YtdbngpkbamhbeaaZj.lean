import Derived.Test.YtdbngpkbamhbeaaZi
import Derived.Test.YtdbngpkbamhbeaaEngZf
import Derived.Test.YtdbngpkbamhbeaaEngZi
set_option linter.unusedSimpArgs false
set_option linter.unusedVariables false
set_option linter.unusedSectionVars false
set_option maxRecDepth 20000
namespace Go.Proofs.Ytdbngpkbamhbeaa
attribute [local irreducible] QOp aL aC qL
section
variable {P : Program} {st : St} {d : Option Tmp} {ty : TypeId} {pos : String} {af : Array Edge} {g : Option (Nat × Bool)}
theorem P_ixrP {x ix : Operand} {T e : TypeId} {l : List (Nat × Nat)} {i : Int} {o : Nat} (hx : st.ev x = pairs (pn l)) (hi : st.ev ix = .val (.int .i64 i)) (hio : i = (o : Int)) (ht : SlT P T e 2) (h : o < l.length) :
    POp P ⟨d, .indexAddr T x ix, ty, pos, af, g⟩ st (.rpt (pairc (pn l)) (o * 2)) := fun _ ρ w a hr => by
  have hg := hr.ev x
  rw [hx] at hg
  have hrd : Rd w (Ban ρ st.objs) (a.eval x) (.sl 2 (pairc (pn l))) := hg.ro_inv
  have hn : (pairc (pn l)).length = l.length * 2 := by rw [pairc_len, pn_len]
  generalize pairc (pn l) = cs at *
  obtain ⟨u, hu⟩ : ∃ u, a.eval x = u := ⟨_, rfl⟩
  rw [hu] at hrd
  cases hrd with
  | nil _ => rw [List.length_nil] at hn; omega
  | sl ad n' cap _ _ us hn' hsp hM hc hd =>
    have hnn : l.length = n' := by omega
    subst hnn
    refine ⟨.pointer (some (ad.add (o * 2))), .rpt ad _ _ us trivial hM hc hd, fun w1 => ?_⟩
    have := run_indexAt_slice (P := P) ht ad l.length cap .i64 i (by omega) (by omega) w1
    rw [show i.toNat * 2 = o * 2 by omega] at this
    simp only [execOp, hu, hr.evv hi, Sem.run_bind, this, Result.andThen_ok, Sem.run_pure]
theorem F_ixrP {x ix : Operand} {T e : TypeId} {l : List (Nat × Nat)} {i : Int} {o : Nat} (hx : st.ev x = pairs (pn l)) (hi : st.ev ix = .val (.int .i64 i)) (hio : i = (o : Int)) (ht : SlT P T e 2) (h : o < l.length) :
    FOp P ⟨d, .indexAddr T x ix, ty, pos, af, g⟩ st (.rpt (pairc (pn l)) (o * 2)) := POp.f (P_ixrP hx hi hio ht h)
theorem P_sliceLPE {x lo : Operand} {T e : TypeId} {l r : List (Int × Int)} {i : Int} {k : Nat} (hq : l.drop k = r) (hx : st.ev x = pairs l) (hi : st.ev lo = .val (.int .i64 i)) (hk : i = (k : Int)) (ht : SlT P T e 2) (h : k ≤ l.length) :
    POp P ⟨d, .slice T x (some lo) none none, ty, pos, af, g⟩ st (pairs r) := by subst hq; exact P_sliceLP hx hi hk ht h
theorem F_sliceLPE {x lo : Operand} {T e : TypeId} {l r : List (Int × Int)} {i : Int} {k : Nat} (hq : l.drop k = r) (hx : st.ev x = pairs l) (hi : st.ev lo = .val (.int .i64 i)) (hk : i = (k : Int)) (ht : SlT P T e 2) (h : k ≤ l.length) :
    FOp P ⟨d, .slice T x (some lo) none none, ty, pos, af, g⟩ st (pairs r) := by subst hq; exact F_sliceLP hx hi hk ht h
theorem P_sliceHPE {x lo : Operand} {T e : TypeId} {l r : List (Int × Int)} {i : Int} {k : Nat} (hq : l.take k = r) (hx : st.ev x = pairs l) (hi : st.ev lo = .val (.int .i64 i)) (hk : i = (k : Int)) (ht : SlT P T e 2) (h : k ≤ l.length) :
    POp P ⟨d, .slice T x none (some lo) none, ty, pos, af, g⟩ st (pairs r) := by subst hq; exact P_sliceHP hx hi hk ht h
theorem F_sliceHPE {x lo : Operand} {T e : TypeId} {l r : List (Int × Int)} {i : Int} {k : Nat} (hq : l.take k = r) (hx : st.ev x = pairs l) (hi : st.ev lo = .val (.int .i64 i)) (hk : i = (k : Int)) (ht : SlT P T e 2) (h : k ≤ l.length) :
    FOp P ⟨d, .slice T x none (some lo) none, ty, pos, af, g⟩ st (pairs r) := by subst hq; exact F_sliceHP hx hi hk ht h
end
end Go.Proofs.Ytdbngpkbamhbeaa
