import Derived.Test.YtdbngpkbamhbeaaEngZzh
import Derived.Test.YtdbngpkbamhbeaaEngZo
import Derived.Test.YtdbngpkbamhbeaaCc
set_option linter.unusedSimpArgs false
set_option linter.unusedVariables false
set_option linter.unusedSectionVars false
namespace Go.Proofs.Ytdbngpkbamhbeaa
open Go.RowKit
theorem a_holdRN [Zs] {P : Program} {k : Nat} {cx : Cx k} {st : St} {id : Nat} {l : List Oper} {n : Nat} {Q : Exit → St → Prop} (hm : P.follows .mixedOrders = true) (hn : l.length = n) (h : rL P cx l.toArray (fun st => Q .normal st) n (List.replicate n false) st) : aC P cx (.region id l.toArray true) Q st :=
  a_mono (a_holdR (Q := Q) hm hn h) fun e st h => by cases e <;> exact h
end Go.Proofs.Ytdbngpkbamhbeaa
set_option linter.unusedSimpArgs false
set_option linter.unusedVariables false
set_option linter.unusedSectionVars false
namespace Go.Proofs.Ytdbngpkbamhbeaa
open Go.RowKit
variable {P : Program} {st : St} {ty : TypeId} {pos : String} {af : Array Edge} {d : Option Tmp} {g : Option (Nat × Bool)} {T : TypeId} {x : Operand}
theorem P_ixc {ix : Operand} {e : TypeId} {cs : List Dat} {i : Int} {o : Nat} (hx : st.ev x = .ro (.sl 1 cs)) (hi : st.ev ix = .val (.int .i64 i)) (hio : i = (o : Int)) (ht : SlT P T e 1) (h : o < cs.length) :
    POp P ⟨d, .indexAddr T x ix, ty, pos, af, g⟩ st (.rpt cs o) := fun _ ρ w a hr => by
  have hg := hr.ev x
  rw [hx] at hg
  have hrd : Rd w (Ban ρ st.objs) (a.eval x) (.sl 1 cs) := hg.ro_inv
  obtain ⟨u, hu⟩ : ∃ u, a.eval x = u := ⟨_, rfl⟩
  rw [hu] at hrd
  cases hrd with
  | nil _ => rw [List.length_nil] at h; omega
  | sl ad n' cap _ _ us hn' hsp hM hc hd =>
    refine ⟨.pointer (some (ad.add o)), .rpt ad _ _ us trivial hM hc hd, fun w1 => ?_⟩
    have := run_indexAt_slice (P := P) ht ad n' cap .i64 i (by omega) (by omega) w1
    rw [show i.toNat * 1 = o by omega] at this
    simp only [execOp, hu, hr.evv hi, Sem.run_bind, this, Result.andThen_ok, Sem.run_pure]
theorem R_ix_tn {ix : Operand} {e : TypeId} {n : Nat} {M : List (List Nat)} {i : Int} {o : Nat} (hM : Sq n M) (hx : st.ev x = rows (tn M)) (hi : st.ev ix = .val (.int .i64 i)) (ho : i = (o : Int)) (ht : SlT P T e 1) (h : o < n) :
    ROp P ⟨d, .indexAddr T x ix, ty, pos, af, g⟩ st (.rpt (rowc (tn M)) o) := POp.r (P_ixc hx hi ho ht (by rw [rowc_len, tn_len, hM.len]; omega))
theorem R_ld_tn {n : Nat} {M : List (List Nat)} {o : Nat} (hM : Sq n M) (hx : st.ev x = .rpt (rowc (tn M)) o) (h : o < n) (ht : ScT P T) : ROp P ⟨d, .load T x, ty, pos, af, g⟩ st (ints (nl (M.getD o []))) := by
  rw [← tn_get]; exact R_ld_rs hx (rowc_get (by rw [tn_len, hM.len]; exact h)) ht
theorem R_ix_tr {ix : Operand} {e : TypeId} {n : Nat} {M : List (List Nat)} {r : Nat} {i : Int} {o : Nat} (hM : Sq n M) (hx : st.ev x = ints (nl (M.getD r []))) (hi : st.ev ix = .val (.int .i64 i)) (ho : i = (o : Int)) (ht : SlT P T e 1) (hr : r < n) (h : o < n) :
    ROp P ⟨d, .indexAddr T x ix, ty, pos, af, g⟩ st (.rpt (intc (nl (M.getD r []))) o) := POp.r (P_ixc hx hi ho ht (by rw [intc_len, nl_len, hM.row r hr]; omega))
theorem R_ld_ta {n : Nat} {M : List (List Nat)} {r o : Nat} (hM : Sq n M) (hx : st.ev x = .rpt (intc (nl (M.getD r []))) o) (hr : r < n) (h : o < n) (ht : ScT P T) :
    ROp P ⟨d, .load T x, ty, pos, af, g⟩ st (.val (.int .i64 ((ta M r o : Nat) : Int))) := by
  have := R_ld_rv (P := P) (d := d) (ty := ty) (pos := pos) (af := af) (g := g) hx (intc_get (l := nl (M.getD r [])) (o := o) (by rw [nl_len, hM.row r hr]; exact h)) ht
  rwa [nl_get] at this
theorem R_ix_nl {ix : Operand} {e : TypeId} {l : List Nat} {i : Int} {o : Nat} (hx : st.ev x = ints (nl l)) (hi : st.ev ix = .val (.int .i64 i)) (ho : i = (o : Int)) (ht : SlT P T e 1) (h : o < l.length) :
    ROp P ⟨d, .indexAddr T x ix, ty, pos, af, g⟩ st (.rpt (intc (nl l)) o) := POp.r (P_ixc hx hi ho ht (by rw [intc_len, nl_len]; omega))
theorem R_ld_nl {l : List Nat} {o : Nat} (hx : st.ev x = .rpt (intc (nl l)) o) (h : o < l.length) (ht : ScT P T) : ROp P ⟨d, .load T x, ty, pos, af, g⟩ st (.val (.int .i64 ((l.getD o 0 : Nat) : Int))) := by
  have := R_ld_rv (P := P) (d := d) (ty := ty) (pos := pos) (af := af) (g := g) hx (intc_get (l := nl l) (o := o) (by rw [nl_len]; exact h)) ht
  rwa [nl_get] at this
end Go.Proofs.Ytdbngpkbamhbeaa
set_option linter.unusedSimpArgs false
set_option linter.unusedVariables false
set_option linter.unusedSectionVars false
namespace Go.Proofs.Ytdbngpkbamhbeaa
open Go.RowKit
variable {P : Program} {st : St} {ty : TypeId} {pos : String} {af : Array Edge} {d : Option Tmp} {g : Option (Nat × Bool)} {T : TypeId} {x : Operand}
theorem P_ixc2 {ix : Operand} {e : TypeId} {cs : List Dat} {i : Int} {o m : Nat} (hx : st.ev x = .ro (.sl 2 cs)) (hi : st.ev ix = .val (.int .i64 i)) (hio : i = (o : Int)) (ht : SlT P T e 2) (hl : cs.length = m * 2) (h : o < m) :
    POp P ⟨d, .indexAddr T x ix, ty, pos, af, g⟩ st (.rpt cs (o * 2)) := fun _ ρ w a hr => by
  have hg := hr.ev x
  rw [hx] at hg
  have hrd : Rd w (Ban ρ st.objs) (a.eval x) (.sl 2 cs) := hg.ro_inv
  obtain ⟨u, hu⟩ : ∃ u, a.eval x = u := ⟨_, rfl⟩
  rw [hu] at hrd
  cases hrd with
  | nil _ => rw [List.length_nil] at hl; omega
  | sl ad n' cap _ _ us hn' hsp hM hc hd =>
    refine ⟨.pointer (some (ad.add (o * 2))), .rpt ad _ _ us trivial hM hc hd, fun w1 => ?_⟩
    have := run_indexAt_slice (P := P) ht ad n' cap .i64 i (by omega) (by omega) w1
    rw [show i.toNat * 2 = o * 2 by omega] at this
    simp only [execOp, hu, hr.evv hi, Sem.run_bind, this, Result.andThen_ok, Sem.run_pure]
theorem R_ix_pn {ix : Operand} {e : TypeId} {l : List (Nat × Nat)} {i : Int} {o : Nat} (hx : st.ev x = pairs (pn l)) (hi : st.ev ix = .val (.int .i64 i)) (ho : i = (o : Int)) (ht : SlT P T e 2) (h : o < l.length) :
    ROp P ⟨d, .indexAddr T x ix, ty, pos, af, g⟩ st (.rpt (pairc (pn l)) (o * 2)) := POp.r (P_ixc2 hx hi ho ht (by rw [pairc_len, pn_len]) h)
theorem R_ld_pn {l : List (Nat × Nat)} {o : Nat} (hx : st.ev x = .rpt (pairc (pn l)) (o * 2)) (hlo : o < l.length) (ht : AgT P T 2) :
    ROp P ⟨d, .load T x, ty, pos, af, g⟩ st (.agg [.val (.int .i64 ((l.getD o (0, 0)).1 : Nat)), .val (.int .i64 ((l.getD o (0, 0)).2 : Nat))]) := fun zs ρ w a hr => by
  have h := hr.ev x
  rw [hx] at h
  obtain ⟨ad, us, he, hsp, hM, hcl, hd⟩ := h.rpt_inv
  have hg := pairc_get (l := pn l) (o := o) (by rw [pn_len]; exact hlo)
  rw [pn_get] at hg
  have hu0 : us (o * 2) = .int .i64 ((l.getD o (0, 0)).1 : Nat) := (show ∀ u v, Rd w (Ban ρ st.objs) u (.val v) → u = v from fun u v h => by cases h; rfl) _ _ (hd _ _ hg.1)
  have hu1 : us (o * 2 + 1) = .int .i64 ((l.getD o (0, 0)).2 : Nat) := (show ∀ u v, Rd w (Ban ρ st.objs) u (.val v) → u = v from fun u v h => by cases h; rfl) _ _ (hd _ _ hg.2)
  refine ⟨.agg #[.int .i64 ((l.getD o (0, 0)).1 : Nat), .int .i64 ((l.getD o (0, 0)).2 : Nat)], .agg _ _ rfl fun i av v h5 h6 => ?_, fun w1 hw => ?_⟩
  · match i, h5, h6 with
    | 0, h5, h6 =>
      obtain rfl := Option.some.inj h5
      obtain rfl := Option.some.inj h6
      exact .val _
    | 1, h5, h6 =>
      obtain rfl := Option.some.inj h5
      obtain rfl := Option.some.inj h6
      exact .val _
  · have l0 := (List.getElem?_eq_some_iff.1 hg.1).1
    have l1 := (List.getElem?_eq_some_iff.1 hg.2).1
    have c0 := same_cell (hM _ l0) (hcl _ _ hg.1) hw
    have c1 := same_cell (hM _ l1) (hcl _ _ hg.2) hw
    rw [hu0] at c0
    rw [hu1] at c1
    have := run_loadAgg (P := P) (w := w1) ht (ad.add (o * 2)) [.int .i64 ((l.getD o (0, 0)).1 : Nat), .int .i64 ((l.getD o (0, 0)).2 : Nat)] rfl fun j v hv => by
      match j, hv with
      | 0, hv => obtain rfl := Option.some.inj hv; rw [add_add']; exact c0
      | 1, hv => obtain rfl := Option.some.inj hv; rw [add_add']; exact c1
    simp [execOp, he, Instr.loadAt, Instr.sureAddr, this]
end Go.Proofs.Ytdbngpkbamhbeaa
