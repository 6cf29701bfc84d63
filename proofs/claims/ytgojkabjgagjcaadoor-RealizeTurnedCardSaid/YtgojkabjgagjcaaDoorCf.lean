import Derived.Test.YtgojkabjgagjcaaDoorFf
import Derived.Test.YtgojkabjgagjcaaDoorGr
import Derived.Test.YtgojkabjgagjcaaDoorCd
import Derived.Test.YtgojkabjgagjcaaDoorEngZd
import Derived.Test.YtgojkabjgagjcaaDoorEngZf
import Derived.Test.YtgojkabjgagjcaaDoorXc
import Derived.Test.YtgojkabjgagjcaaDoorEngA
import Derived.Test.YtgojkabjgagjcaaDoorFc
import Derived.MapKept
set_option linter.unusedSimpArgs false
set_option linter.unusedVariables false
set_option linter.unusedSectionVars false
set_option maxRecDepth 20000
namespace Go.Proofs.YtgojkabjgagjcaaDoor
attribute [local irreducible] QOp aL aC qL
theorem ext_getD {a b : List Int} (hl : a.length = b.length) (h : ∀ i, i < a.length → a.getD i 0 = b.getD i 0) : a = b := by
  apply List.ext_getElem hl
  intro i h1 h2
  have := h i h1
  rw [List.getD_eq_getElem?_getD, List.getD_eq_getElem?_getD, List.getElem?_eq_getElem h1, List.getElem?_eq_getElem h2] at this
  exact this
theorem Same_ac (a b : List Int) (ha : a.length ≤ 9223372036854775807) : AC Tryd.prog 49 [ints a, ints b] [] (.val (.bool (decide (a = b)))) [] := by
  refine AC.mk (n := 26) (fn := Tryd.f49) Tryd.func49 (by kernel_rfl) rfl rfl rfl rfl (fun cx => ?_); dsimp only [argv, Nat.reduceAdd]
  (repeat' (first | refine a_seq ?_ | refine a_block ?_ | refine a_skip ?_ | refine a_ret ?_ | refine a_region ?_ | refine l_nil ?_ | ((first | apply w_q); (focus (first | exact Q_move (by conv => lhs; whnf) | exact Q_assign (by conv => lhs; whnf) | exact Q_neq rfl rfl | exact Q_len_ints rfl KSl.h)); (focus exact rfl)) | (refine a_cond rfl ?_ ?_ <;> (intro h; (try (have hp := of_decide_eq_true h)); (try (have hp := of_decide_eq_false h)); (try contradiction); (try (exfalso; omega)))))); (try all_goals (try show retA _ _ _ _ _ _ _))
  · refine ⟨[_], [], ⟨resV_tmp (by conv => lhs; whnf), trivial⟩, VwOs.mk (by decide) trivial, ?_, rfl⟩
    exact Vw.bool' (decide_eq_false (fun h => hp (by rw [h]))).symm
  refine w_loop (X := Nat) [0, 1] (by simp only [keepv, getv_cons, Nat.reduceEqDiff, ↓reduceIte]; exact rfl) (fun k => [(5, .val (.int .i64 (k : Int)))]) (fun k => []) (fun k => k ≤ a.length ∧ ∀ i, i < k → a.getD i 0 = b.getD i 0) (fun k => a.length - k) (0) ([]) ?_ ?_ rfl ?_ <;> (try dsimp only [List.cons_append, List.nil_append])
  · exact ⟨Nat.zero_le _, fun _ h => by omega⟩
  · (refine St.le_mk rfl (VwOs.mk (by decide) ?_) ?_ <;> (repeat' (first | exact trivial | exact vwR rfl | exact Vw.ro _ | refine ⟨?_, ?_⟩ )))
  rintro k ⟨hk, hall⟩
  (repeat' (first | refine a_seq ?_ | refine a_block ?_ | refine a_skip ?_ | refine a_ret ?_ | refine a_exit ?_ | refine a_region ?_ | refine l_nil ?_ | refine q_nil ?_ | ((first | apply w_q | apply w_qq); (focus (first | exact Q_move (by conv => lhs; whnf) | exact Q_assign (by conv => lhs; whnf) | exact Q_lss rfl rfl | exact Q_neq rfl rfl | exact Q_add rfl rfl (by omega) | exact Q_ix_ints rfl rfl rfl KSl.h (by omega) | exact Q_ld_ints rfl (by omega) KSc.h | exact Q_len_ints rfl KSl.h)); (focus exact rfl)) | (refine a_cond rfl ?_ ?_ <;> (intro h; (try (have hp := of_decide_eq_true h)); (try (have hp := of_decide_eq_false h)); (try contradiction); (try (exfalso; omega)))) | refine a_draw (by kernel_rfl) (by kernel_rfl) ?_)); (try all_goals (try show retA _ _ _ _ _ _ _))
  · refine ⟨[_], [], ⟨resV_tmp (by conv => lhs; whnf), trivial⟩, VwOs.mk (by decide) trivial, ?_, rfl⟩
    exact Vw.bool' (decide_eq_false (fun h => hp (by rw [h]))).symm
  · refine ⟨k + 1, [], ?_, ?_, ?_, rfl⟩ <;> (try dsimp only)
    · refine ⟨by omega, fun i hi => ?_⟩
      by_cases hq : i = k
      · subst hq
        exact Decidable.not_not.1 hp
      · exact hall i (by omega)
    · omega
    · (refine St.le_mk rfl (VwOs.mk (by decide) ?_) ?_ <;> (repeat' (first | exact trivial | exact vwR rfl | exact Vw.ro _ | refine ⟨?_, ?_⟩ )))
  · refine ⟨[_], [], ⟨resV_tmp (by conv => lhs; whnf), trivial⟩, VwOs.mk (by decide) trivial, ?_, rfl⟩
    exact Vw.bool' (decide_eq_true (ext_getD (by omega) fun i hi => hall i (by omega))).symm
end Go.Proofs.YtgojkabjgagjcaaDoor
set_option linter.unusedSimpArgs false
set_option linter.unusedVariables false
set_option linter.unusedSectionVars false
set_option maxRecDepth 20000
namespace Go.Proofs.YtgojkabjgagjcaaDoor
attribute [local irreducible] QOp aL aC qL
def cmpN (a b : Int) : Int := if a < b then -1 else if b < a then 1 else 0
attribute [local irreducible] FOp POp hL xH
end Go.Proofs.YtgojkabjgagjcaaDoor
set_option linter.unusedSimpArgs false
set_option linter.unusedVariables false
set_option linter.unusedSectionVars false
set_option maxRecDepth 20000
namespace Go.Proofs.YtgojkabjgagjcaaDoor
attribute [local irreducible] QOp aL aC qL
attribute [local irreducible] FOp POp hL xH
/-- What compares two numbers by their keys. -/
def CmpK (g : FuncId) (kf : Nat → Nat) : Prop := ∀ x y : Nat, x < 1024 → y < 1024 → AC Tryd.prog g [.val (.int .i64 (x : Nat)), .val (.int .i64 (y : Nat))] [] (.val (.int .i64 (cmpN (kf x : Nat) (kf y : Nat)))) []
def All10 (L : List Nat) : Prop := ∀ x ∈ L, x < 1024
theorem All10.get {L : List Nat} (h : All10 L) (i : Nat) : L.getD i 0 < 1024 := by
  rw [List.getD_eq_getElem?_getD]
  cases hq : L[i]? with
  | none => decide
  | some x => exact h x (List.mem_of_getElem? hq)
theorem All10.sm {a b : Nat} {L L' : List Nat} (h : All10 L) (g : Sm a b L L') : All10 L' := fun x hx => h x (g.pm.mem_iff.1 hx)
end Go.Proofs.YtgojkabjgagjcaaDoor
set_option linter.unusedSimpArgs false
set_option linter.unusedVariables false
set_option linter.unusedSectionVars false
set_option maxRecDepth 20000
namespace Go.Proofs.YtgojkabjgagjcaaDoor
attribute [local irreducible] QOp aL aC qL
def obT (l : List (Nat × Nat)) (s k : Nat) : List Nat := (List.range k).filter fun t => sub s t && oba l t
def alT (L : List Nat) (i m : Nat) : Bool := (L.take m).all fun t => t.testBit i
end Go.Proofs.YtgojkabjgagjcaaDoor
set_option linter.unusedSimpArgs false
set_option linter.unusedVariables false
set_option linter.unusedSectionVars false
set_option maxRecDepth 20000
namespace Go.Proofs.YtgojkabjgagjcaaDoor
attribute [local irreducible] QOp aL aC qL
/-- A list of weights of the sets of n points. -/
def Wts (n : Nat) (f : List Int) : Prop := f.length = 2 ^ n ∧ ∀ w ∈ f, 0 ≤ w ∧ w ≤ 1000
theorem Wts.get {n : Nat} {f : List Int} (h : Wts n f) (s : Nat) : 0 ≤ f.getD s 0 ∧ f.getD s 0 ≤ 1000 := by
  rw [List.getD_eq_getElem?_getD]
  cases hk : f[s]? with
  | none => simp
  | some x => exact h.2 x (List.mem_of_getElem? hk)
def four (n : Nat) (a b c d : List Int) : Bool := (List.range (2 ^ n)).all fun s => (List.range (2 ^ n)).all fun t => !decide (a.getD s 0 * b.getD t 0 > c.getD (s ||| t) 0 * d.getD (s &&& t) 0)
end Go.Proofs.YtgojkabjgagjcaaDoor
set_option linter.unusedSimpArgs false
set_option linter.unusedVariables false
set_option linter.unusedSectionVars false
set_option maxRecDepth 20000
namespace Go.Proofs.YtgojkabjgagjcaaDoor
attribute [local irreducible] QOp aL aC qL
def cloT (n : Nat) (l : List (Nat × Nat)) (k : Nat) : List Nat := (List.range k).map (clo n l)
end Go.Proofs.YtgojkabjgagjcaaDoor
set_option linter.unusedSimpArgs false
set_option linter.unusedVariables false
set_option linter.unusedSectionVars false
set_option maxRecDepth 20000
namespace Go.Proofs.YtgojkabjgagjcaaDoor
attribute [local irreducible] QOp aL aC qL
/-- A set that is not closed, but is as far as the rules of smaller ones go. -/
def skO (cl : Nat → Nat) (T : List Nat) (s : Nat) : Bool := decide (cl s ≠ s) && T.all fun t => !sub t s || sub (cl t) s
def skT (cl : Nat → Nat) : Nat → List Nat
  | 0 => []
  | k + 1 => if skO cl (skT cl k) k = true then skT cl k ++ [k] else skT cl k
def skw (cl : Nat → Nat) (s : Nat) : Bool := skO cl (skT cl s) s
/-! Fewer marks. -/
/-- What the library has found so far. -/
def bsO (cl : Nat → Nat) (P : List Nat) (k : Nat) : List Nat := (P.take k).filter (skw cl)
end Go.Proofs.YtgojkabjgagjcaaDoor
set_option linter.unusedSimpArgs false
set_option linter.unusedVariables false
set_option linter.unusedSectionVars false
set_option maxRecDepth 20000
namespace Go.Proofs.YtgojkabjgagjcaaDoor
attribute [local irreducible] QOp aL aC qL
section
variable {P : Program} {st : St} {d : Option Tmp} {ty : TypeId} {pos : String} {af : Array Edge} {g : Option (Nat × Bool)}
/-- Two cells of an own row of pairs. -/
theorem Q_ld_ownP {x : Operand} {T e : TypeId} {l : List (Nat × Nat)} {id o : Nat} (hx : st.ev x = .ept id (o * 2)) (hob : st.objs[id]? = some (.row e 2 (pairc (pn l)))) (h : o < l.length) (ht : AgT P T 2) :
    QOp P ⟨d, .load T x, ty, pos, af, g⟩ st (.agg [.val (.int .i64 ((l.getD o (0, 0)).1 : Int)), .val (.int .i64 ((l.getD o (0, 0)).2 : Int))]) :=
  .run fun ρ w a hr => by
    have h' := hr.ev x
    rw [hx] at h'
    obtain ⟨b, n, cap, l', he, hl⟩ := h'.ept_inv
    obtain ⟨hρ, hrow⟩ := row_cells hr.good hob (.own id _ l' hl rfl)
    rcases hrow with ⟨h1, _⟩ | ⟨b', n', cap', h1, h2, h3, _, h4⟩
    · cases h1
    · cases h1
      have hg := pairc_get (l := pn l) (o := o) (by rw [pn_len]; exact h)
      rw [pn_get] at hg
      obtain ⟨v0, hv0, hr0⟩ := h4 (o * 2) _ hg.1
      obtain ⟨v1, hv1, hr1⟩ := h4 (o * 2 + 1) _ hg.2
      refine ⟨.agg #[v0, v1], .agg _ _ rfl fun i av v h5 h6 => ?_, fun w1 hw => ?_⟩
      · match i, h5, h6 with
        | 0, h5, h6 =>
          obtain rfl := Option.some.inj h5
          obtain rfl := Option.some.inj h6
          exact gm_ofD hr0
        | 1, h5, h6 =>
          obtain rfl := Option.some.inj h5
          obtain rfl := Option.some.inj h6
          exact gm_ofD hr1
      · have c0 : w1.cell? ⟨b, o * 2, none⟩ = some v0 := by rw [hw.cell (p := ⟨b, o * 2, none⟩) h3]; exact hv0
        have c1 : w1.cell? ⟨b, o * 2 + 1, none⟩ = some v1 := by rw [hw.cell (p := ⟨b, o * 2 + 1, none⟩) h3]; exact hv1
        have := run_loadAgg (P := P) (w := w1) ht ⟨b, o * 2, none⟩ [v0, v1] rfl fun j v hv => by
          match j, hv with
          | 0, hv => obtain rfl := Option.some.inj hv; exact c0
          | 1, hv => obtain rfl := Option.some.inj hv; exact c1
        simp [execOp, he, Instr.loadAt, Instr.sureAddr, this]
theorem Q_ix_ownP {x ix : Operand} {T e e' : TypeId} {l : List (Nat × Nat)} {id : Nat} {i : Int} {o : Nat} (hx : st.ev x = .own id) (hob : st.objs[id]? = some (.row e' 2 (pairc (pn l)))) (hi : st.ev ix = .val (.int .i64 i)) (ho : i = (o : Int)) (ht : SlT P T e 2) (h : o < l.length) :
    QOp P ⟨d, .indexAddr T x ix, ty, pos, af, g⟩ st (.ept id (o * 2)) := by
  have := Q_index_own (P := P) (d := d) (ty := ty) (pos := pos) (af := af) (g := g) (x := x) (ix := ix) hx hob hi ht (pairc_len (pn l)) (by decide) ⟨by omega, by rw [pn_len]; omega⟩
  rw [show i.toNat * 2 = o * 2 by omega] at this
  exact this
end
/-- Sets and what follows from them. -/
def rlP (cl : Nat → Nat) (T : List Nat) : List (Nat × Nat) := T.map fun t => (t, cl t)
end Go.Proofs.YtgojkabjgagjcaaDoor
set_option linter.unusedSimpArgs false
set_option linter.unusedVariables false
set_option linter.unusedSectionVars false
namespace Go.Proofs.YtgojkabjgagjcaaDoor
open Go.RowKit Go.MapKept
/-! Maps, plain: the entries one behind the other. -/
def mi (l : List (Int × Int)) : List (Value × Value) := l.map fun p => (.int .i64 p.1, .int .i64 p.2)
def mget : List (Int × Int) → Int → Option Int
  | [], _ => none
  | p :: r, k => if p.1 = k then some p.2 else mget r k
def midx : List (Int × Int) → Int → Nat
  | [], _ => 0
  | p :: r, k => if p.1 = k then 0 else midx r k + 1
def mput : List (Int × Int) → Int → Int → List (Int × Int)
  | [], k, v => [(k, v)]
  | p :: r, k, v => if p.1 = k then (k, v) :: r else p :: mput r k v
def mgd (l : List (Int × Int)) (k : Int) : Int := (mget l k).getD 0
/-- Every key is there just once. -/
def Mk (l : List (Int × Int)) : Prop := (l.map (·.1)).Nodup
/-! The machine's words. -/
/-- A type of maps from numbers to numbers. -/
def MpT (P : Program) (t : TypeId) : Prop := ∃ kt et, P.underlying t = some (.map kt et) ∧ P.underlying kt = some (.int .i64) ∧ MkT P et (.int .i64 0) 1 8
class KMp (P : Program) (t : TypeId) : Prop where h : MpT P t
end Go.Proofs.YtgojkabjgagjcaaDoor
set_option linter.unusedSimpArgs false
set_option linter.unusedVariables false
set_option linter.unusedSectionVars false
set_option maxRecDepth 20000
namespace Go.Proofs.YtgojkabjgagjcaaDoor
attribute [local irreducible] QOp aL aC qL
/-- Numbers by what has them. -/
def mmS : List Nat → Nat → List (Int × Int)
  | [], _ => []
  | x :: r, i => ((x : Int), (i : Int)) :: mmS r (i + 1)
theorem pairc_nil {l : List (Int × Int)} (h : pairc l = []) : l = [] := by
  cases l with
  | nil => rfl
  | cons x l => simp [pairc] at h
theorem CloneP_ac (l : List (Int × Int)) (hl : l.length ≤ 100000) : AC Tryd.prog 120 [pairs l] [] (.own 0) [.row 100 2 (pairc l)] := by
  refine AC.mk (n := 8) (fn := Tryd.f120) Tryd.func120 (by kernel_rfl) rfl rfl rfl rfl (fun cx => ?_); dsimp only [argv, Nat.reduceAdd]
  (repeat' (first | refine w_nilownC 2 100 2 rfl (by first|(dsimp only[obA,obB,obD,obE,obF,obG,obI,List.map,AO.sh,AV.sh,AV.shl,Nat.reduceAdd];done)|exact rfl) rfl ?_ | (first | refine a_seq ?_ | refine a_skip ?_ | refine a_ret ?_ | refine a_region ?_ | refine l_nil ?_ | (apply w_q; (focus (first | exact Q_move (by conv => lhs; whnf) | exact Q_assign (by conv => lhs; whnf))); (focus exact rfl)) | (refine a_cond rfl ?_ ?_ <;> (intro h; (try (have hp := of_decide_eq_true h)); (try (have hp := of_decide_eq_false h)); (try contradiction); (try (exfalso; omega)))) | ((refine w_eqnil rfl rfl KSl.h rfl ?_; intro b hb; cases b)) | (refine w_lit_e (by decide) KSl.h KMk.h (by first|(dsimp only[obA,obB,obD,obE,obF,obG,obI,List.map,AO.sh,AV.sh,AV.shl,Nat.reduceAdd];done)|exact rfl) rfl rfl ?_) | (refine w_ap_pairsR (l := []) rfl rfl rfl KSl.h KMk.h (by simp; omega) (by first|(dsimp only[obA,obB,obD,obE,obF,obG,obI,List.map,AO.sh,AV.sh,AV.shl,Nat.reduceAdd];done)|exact rfl) rfl rfl ?_)))); (try all_goals (try show retA _ _ _ _ _ _ _))
  · refine ⟨[_], [2], ⟨resV_tmp (by conv => lhs; whnf), trivial⟩, VwOs.mk (by decide) ⟨⟨_, rfl, .row _ _ _⟩, trivial⟩, ?_, rfl⟩
    (repeat' (first | exact Vw.own _ _ rfl))
  · obtain rfl := pairc_nil (hb rfl)
    refine ⟨[_], [1], ⟨resV_tmp (by conv => lhs; whnf), trivial⟩, VwOs.mk (by decide) ⟨⟨_, rfl, .row _ _ _⟩, trivial⟩, ?_, rfl⟩
    (repeat' (first | exact Vw.own _ _ rfl))
end Go.Proofs.YtgojkabjgagjcaaDoor
