import Derived.Test.YtpfldhaaiglgdaaEngZzh
import Derived.Test.YtpfldhaaiglgdaaIr
set_option linter.unusedSimpArgs false
set_option linter.unusedVariables false
set_option linter.unusedSectionVars false
namespace Go.Proofs.Ytpfldhaaiglgdaa
open Go.RowKit
variable {P : Program} {st : St} {ty : TypeId} {pos : String} {af : Array Edge} {d : Option Tmp} {g : Option (Nat × Bool)} {T : TypeId} {x : Operand}
theorem R_ld_pn {l : List (Nat × Nat)} {o : Nat} (hx : st.ev x = .rpt (pairc (pn l)) (o * 2)) (hlo : o < l.length) (ht : AgT P T 2) :
    ROp P ⟨d, .load T x, ty, pos, af, g⟩ st (.agg [.val (.int .i64 ((l.getD o (0, 0)).1 : Nat)), .val (.int .i64 ((l.getD o (0, 0)).2 : Nat))]) := fun zs ρ w a hr => by
  have h := hr.ev x
  rw [hx] at h
  obtain ⟨ad, us, he, hsp, hM, hcl, hd⟩ := h.rpt_inv
  have hg := pairc_get (l := pn l) (o := o) (by rw [pn_len]; exact hlo)
  rw [pn_get] at hg
  have hu0 : us (o * 2) = .int .i64 ((l.getD o (0, 0)).1 : Nat) := (show ∀ u v, Rd w (Ban ρ st.objs) u (.val v) → u = v from fun u v h => by cases h; rfl) _ _ (hd _ _ hg.1)
  have hu1 : us (o * 2 + 1) = .int .i64 ((l.getD o (0, 0)).2 : Nat) := (show ∀ u v, Rd w (Ban ρ st.objs) u (.val v) → u = v from fun u v h => by cases h; rfl) _ _ (hd _ _ hg.2)
  refine ⟨.agg #[.int .i64 ((l.getD o (0, 0)).1 : Nat), .int .i64 ((l.getD o (0, 0)).2 : Nat)], .agg _ _ rfl fun i av v h5 h6 => ?_, fun w1 hw => ?_⟩
  · match i, h5, h6 with
    | 0, h5, h6 =>
      obtain rfl := Option.some.inj h5
      obtain rfl := Option.some.inj h6
      exact .val _
    | 1, h5, h6 =>
      obtain rfl := Option.some.inj h5
      obtain rfl := Option.some.inj h6
      exact .val _
  · have l0 := (List.getElem?_eq_some_iff.1 hg.1).1
    have l1 := (List.getElem?_eq_some_iff.1 hg.2).1
    have c0 := same_cell (hM _ l0) (hcl _ _ hg.1) hw
    have c1 := same_cell (hM _ l1) (hcl _ _ hg.2) hw
    rw [hu0] at c0
    rw [hu1] at c1
    have := run_loadAgg (P := P) (w := w1) ht (ad.add (o * 2)) [.int .i64 ((l.getD o (0, 0)).1 : Nat), .int .i64 ((l.getD o (0, 0)).2 : Nat)] rfl fun j v hv => by
      match j, hv with
      | 0, hv => obtain rfl := Option.some.inj hv; rw [add_add']; exact c0
      | 1, hv => obtain rfl := Option.some.inj hv; rw [add_add']; exact c1
    simp [execOp, he, Instr.loadAt, Instr.sureAddr, this]
end Go.Proofs.Ytpfldhaaiglgdaa
