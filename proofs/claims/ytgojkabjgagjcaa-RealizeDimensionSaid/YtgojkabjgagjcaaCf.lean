import Derived.Test.YtgojkabjgagjcaaEngZd
import Derived.Test.YtgojkabjgagjcaaCd
import Derived.Test.YtgojkabjgagjcaaEngR
import Derived.Test.YtgojkabjgagjcaaXc
import Derived.Test.YtgojkabjgagjcaaIp
import Derived.Test.YtgojkabjgagjcaaEngT
import Derived.Test.YtgojkabjgagjcaaFe
import Derived.Test.YtgojkabjgagjcaaEngZf
import Derived.Test.YtgojkabjgagjcaaEngA
import Derived.Test.YtgojkabjgagjcaaEngZzj
import Derived.MapKept
import Derived.Laws.Slices
set_option linter.unusedSimpArgs false
set_option linter.unusedVariables false
set_option linter.unusedSectionVars false
namespace Go.Proofs.Ytgojkabjgagjcaa
open Go.ChangeShapes Go.WideShapes Go.RowKit Go.Deep
/-- One of them. -/
abbrev ruA (e : Int × Int) : AV := .agg [.val (.int .i64 e.1), .val (.int .i64 e.2)]
end Go.Proofs.Ytgojkabjgagjcaa
set_option linter.unusedSimpArgs false
set_option linter.unusedVariables false
set_option linter.unusedSectionVars false
set_option maxRecDepth 20000
namespace Go.Proofs.Ytgojkabjgagjcaa
attribute [local irreducible] QOp aL aC qL
def clzC (N : Int) (l : List (Int × Int)) (s : Int) : Int := if rlck N l ≠ 0 then rlck N l else if s < 0 ∨ ((2 ^ N.toNat : Nat) : Int) ≤ s then 3 else 0
theorem Rls.ck {n : Nat} {l : List (Nat × Nat)} (h : Rls n l) : rlck n (pn l) = 0 := by
  have hl := pn_len l
  refine rlck_no h.hn (by rw [hl]; exact h.len) fun k hk => ?_
  have hk' : k < l.length := by omega
  have e : (pn l).getD k (0, 0) = (((l.getD k (0, 0)).1 : Int), ((l.getD k (0, 0)).2 : Int)) := by
    unfold pn
    simp [List.getD_eq_getElem?_getD, hk']
  have := h.lt (l.getD k (0, 0)) (by rw [List.getD_eq_getElem?_getD, List.getElem?_eq_getElem hk']; exact List.getElem_mem hk')
  rw [e]
  dsimp only
  omega
def folC (N : Int) (l : List (Int × Int)) (r : Int × Int) : Int := if rlck N l ≠ 0 then rlck N l else if rlw N r = true then 3 else 0
/-! The reference. -/
end Go.Proofs.Ytgojkabjgagjcaa
set_option linter.unusedSimpArgs false
set_option linter.unusedVariables false
set_option linter.unusedSectionVars false
set_option maxRecDepth 20000
namespace Go.Proofs.Ytgojkabjgagjcaa
attribute [local irreducible] QOp aL aC qL
def iskU (n : Nat) (l : List (Nat × Nat)) (s m : Nat) : Bool := (List.range m).all fun i => !(s.testBit i && decide (clo n l (ndiff s (2 ^ i)) = 2 ^ n - 1))
def isk (n : Nat) (l : List (Nat × Nat)) (s : Nat) : Bool := decide (clo n l s = 2 ^ n - 1) && iskU n l s n
def keyT (n : Nat) (l : List (Nat × Nat)) (k : Nat) : List Nat := (List.range k).filter (isk n l)
end Go.Proofs.Ytgojkabjgagjcaa
set_option linter.unusedSimpArgs false
set_option linter.unusedVariables false
set_option linter.unusedSectionVars false
set_option maxRecDepth 20000
namespace Go.Proofs.Ytgojkabjgagjcaa
attribute [local irreducible] QOp aL aC qL
/-- How many of the first k points a set has. -/
def pcTo (x : Nat) : Nat → Nat
  | 0 => 0
  | k + 1 => pcTo x k + x / 2 ^ k % 2
theorem pcTo_le (x : Nat) : ∀ k, pcTo x k ≤ k
  | 0 => Nat.le_refl 0
  | k + 1 => by
    have := pcTo_le x k
    have := Nat.mod_lt (x / 2 ^ k) (show 0 < 2 by decide)
    rw [pcTo]; omega
theorem pcTo_stay {x j : Nat} (h : x / 2 ^ j = 0) : ∀ d, pcTo x (j + d) = pcTo x j
  | 0 => rfl
  | d + 1 => by
    have : x / 2 ^ (j + d) = 0 := by rw [Nat.pow_add, ← Nat.div_div_eq_div_mul, h, Nat.zero_div]
    show pcTo x (j + d) + x / 2 ^ (j + d) % 2 = _
    rw [pcTo_stay h d, this, Nat.zero_mod, Nat.add_zero]
def oc1 (x : Nat) : Nat := ((x / 2 ^ (1 : Int).toNat % 18446744073709551616 &&& (6148914691236517205 : Int).toNat) + (x % 18446744073709551616 &&& (6148914691236517205 : Int).toNat)) % 18446744073709551616
def oc2 (x : Nat) : Nat := ((x / 2 ^ (2 : Int).toNat % 18446744073709551616 &&& (3689348814741910323 : Int).toNat) + (x % 18446744073709551616 &&& (3689348814741910323 : Int).toNat)) % 18446744073709551616
def oc3 (x : Nat) : Nat := (x / 2 ^ (4 : Int).toNat + x) % 18446744073709551616 % 18446744073709551616 &&& (1085102592571150095 : Int).toNat
def oc4 (x : Nat) : Nat := (x + x / 2 ^ (8 : Int).toNat) % 18446744073709551616
def oc5 (x : Nat) : Nat := (x + x / 2 ^ (16 : Int).toNat) % 18446744073709551616
def oc6 (x : Nat) : Nat := (x + x / 2 ^ (32 : Int).toNat) % 18446744073709551616
def ocn (x : Nat) : Nat := oc6 (oc5 (oc4 (oc3 (oc2 (oc1 x)))))
theorem pcTo_10 {x k : Nat} (hx : x < 2 ^ k) (hk : k ≤ 10) : pcTo x 10 = pcTo x k := by
  have := pcTo_stay (Nat.div_eq_of_lt hx) (10 - k)
  rwa [show k + (10 - k) = 10 by omega] at this
end Go.Proofs.Ytgojkabjgagjcaa
set_option linter.unusedSimpArgs false
set_option linter.unusedVariables false
set_option linter.unusedSectionVars false
set_option maxRecDepth 20000
namespace Go.Proofs.Ytgojkabjgagjcaa
attribute [local irreducible] QOp aL aC qL
theorem ext_getD {a b : List Int} (hl : a.length = b.length) (h : ∀ i, i < a.length → a.getD i 0 = b.getD i 0) : a = b := by
  apply List.ext_getElem hl
  intro i h1 h2
  have := h i h1
  rw [List.getD_eq_getElem?_getD, List.getD_eq_getElem?_getD, List.getElem?_eq_getElem h1, List.getElem?_eq_getElem h2] at this
  exact this
theorem Same_ac (a b : List Int) (ha : a.length ≤ 9223372036854775807) : AC Try.prog 32 [ints a, ints b] [] (.val (.bool (decide (a = b)))) [] := by
  refine AC.mk (n := 26) (fn := Try.f32) Try.func32 (by kernel_rfl) rfl rfl rfl rfl (fun cx => ?_); dsimp only [argv, Nat.reduceAdd]
  (repeat' (first | refine a_seq ?_ | refine a_block ?_ | refine a_skip ?_ | refine a_ret ?_ | refine a_region ?_ | refine l_nil ?_ | ((first | apply w_q); (focus (first | exact Q_move (by conv => lhs; whnf) | exact Q_assign (by conv => lhs; whnf) | exact Q_neq rfl rfl | exact Q_len_ints rfl KSl.h)); (focus exact rfl)) | (refine a_cond rfl ?_ ?_ <;> (intro h; (try (have hp := of_decide_eq_true h)); (try (have hp := of_decide_eq_false h)); (try contradiction); (try (exfalso; omega)))))); (try all_goals (try show retA _ _ _ _ _ _ _))
  · refine ⟨[_], [], ⟨resV_tmp (by conv => lhs; whnf), trivial⟩, VwOs.mk (by decide) trivial, ?_, rfl⟩
    exact Vw.bool' (decide_eq_false (fun h => hp (by rw [h]))).symm
  refine w_loop (X := Nat) [0, 1] (by simp only [keepv, getv_cons, Nat.reduceEqDiff, ↓reduceIte]; exact rfl) (fun k => [(5, .val (.int .i64 (k : Int)))]) (fun k => []) (fun k => k ≤ a.length ∧ ∀ i, i < k → a.getD i 0 = b.getD i 0) (fun k => a.length - k) (0) ([]) ?_ ?_ rfl ?_ <;> (try dsimp only [List.cons_append, List.nil_append])
  · exact ⟨Nat.zero_le _, fun _ h => by omega⟩
  · (refine St.le_mk rfl (VwOs.mk (by decide) ?_) ?_ <;> (repeat' (first | exact trivial | exact vwR rfl | exact Vw.ro _ | refine ⟨?_, ?_⟩ )))
  rintro k ⟨hk, hall⟩
  (repeat' (first | refine a_seq ?_ | refine a_block ?_ | refine a_skip ?_ | refine a_ret ?_ | refine a_exit ?_ | refine a_region ?_ | refine l_nil ?_ | refine q_nil ?_ | ((first | apply w_q | apply w_qq); (focus (first | exact Q_move (by conv => lhs; whnf) | exact Q_assign (by conv => lhs; whnf) | exact Q_lss rfl rfl | exact Q_neq rfl rfl | exact Q_add rfl rfl (by omega) | exact Q_ix_ints rfl rfl rfl KSl.h (by omega) | exact Q_ld_ints rfl (by omega) KSc.h | exact Q_len_ints rfl KSl.h)); (focus exact rfl)) | (refine a_cond rfl ?_ ?_ <;> (intro h; (try (have hp := of_decide_eq_true h)); (try (have hp := of_decide_eq_false h)); (try contradiction); (try (exfalso; omega)))) | refine a_draw (by kernel_rfl) (by kernel_rfl) ?_)); (try all_goals (try show retA _ _ _ _ _ _ _))
  · refine ⟨[_], [], ⟨resV_tmp (by conv => lhs; whnf), trivial⟩, VwOs.mk (by decide) trivial, ?_, rfl⟩
    exact Vw.bool' (decide_eq_false (fun h => hp (by rw [h]))).symm
  · refine ⟨k + 1, [], ?_, ?_, ?_, rfl⟩ <;> (try dsimp only)
    · refine ⟨by omega, fun i hi => ?_⟩
      by_cases hq : i = k
      · subst hq
        exact Decidable.not_not.1 hp
      · exact hall i (by omega)
    · omega
    · (refine St.le_mk rfl (VwOs.mk (by decide) ?_) ?_ <;> (repeat' (first | exact trivial | exact vwR rfl | exact Vw.ro _ | refine ⟨?_, ?_⟩ )))
  · refine ⟨[_], [], ⟨resV_tmp (by conv => lhs; whnf), trivial⟩, VwOs.mk (by decide) trivial, ?_, rfl⟩
    exact Vw.bool' (decide_eq_true (ext_getD (by omega) fun i hi => hall i (by omega))).symm
end Go.Proofs.Ytgojkabjgagjcaa
set_option linter.unusedSimpArgs false
set_option linter.unusedVariables false
set_option linter.unusedSectionVars false
set_option maxRecDepth 20000
namespace Go.Proofs.Ytgojkabjgagjcaa
attribute [local irreducible] QOp aL aC qL
def cmpN (a b : Int) : Int := if a < b then -1 else if b < a then 1 else 0
attribute [local irreducible] FOp POp hL xH
end Go.Proofs.Ytgojkabjgagjcaa
set_option linter.unusedSimpArgs false
set_option linter.unusedVariables false
set_option linter.unusedSectionVars false
set_option maxRecDepth 20000
namespace Go.Proofs.Ytgojkabjgagjcaa
attribute [local irreducible] QOp aL aC qL
attribute [local irreducible] FOp POp hL xH
/-- What compares two numbers by their keys. -/
def CmpK (g : FuncId) (kf : Nat → Nat) : Prop := ∀ x y : Nat, x < 1024 → y < 1024 → AC Try.prog g [.val (.int .i64 (x : Nat)), .val (.int .i64 (y : Nat))] [] (.val (.int .i64 (cmpN (kf x : Nat) (kf y : Nat)))) []
def All10 (L : List Nat) : Prop := ∀ x ∈ L, x < 1024
theorem All10.get {L : List Nat} (h : All10 L) (i : Nat) : L.getD i 0 < 1024 := by
  rw [List.getD_eq_getElem?_getD]
  cases hq : L[i]? with
  | none => decide
  | some x => exact h x (List.mem_of_getElem? hq)
theorem All10.sm {a b : Nat} {L L' : List Nat} (h : All10 L) (g : Sm a b L L') : All10 L' := fun x hx => h x (g.pm.mem_iff.1 hx)
end Go.Proofs.Ytgojkabjgagjcaa
set_option linter.unusedSimpArgs false
set_option linter.unusedVariables false
set_option linter.unusedSectionVars false
set_option maxRecDepth 20000
namespace Go.Proofs.Ytgojkabjgagjcaa
attribute [local irreducible] QOp aL aC qL
def obT (l : List (Nat × Nat)) (s k : Nat) : List Nat := (List.range k).filter fun t => sub s t && oba l t
def alT (L : List Nat) (i m : Nat) : Bool := (L.take m).all fun t => t.testBit i
end Go.Proofs.Ytgojkabjgagjcaa
set_option linter.unusedSimpArgs false
set_option linter.unusedVariables false
set_option linter.unusedSectionVars false
set_option maxRecDepth 20000
namespace Go.Proofs.Ytgojkabjgagjcaa
attribute [local irreducible] QOp aL aC qL
/-- A list of weights of the sets of n points. -/
def Wts (n : Nat) (f : List Int) : Prop := f.length = 2 ^ n ∧ ∀ w ∈ f, 0 ≤ w ∧ w ≤ 1000
theorem Wts.get {n : Nat} {f : List Int} (h : Wts n f) (s : Nat) : 0 ≤ f.getD s 0 ∧ f.getD s 0 ≤ 1000 := by
  rw [List.getD_eq_getElem?_getD]
  cases hk : f[s]? with
  | none => simp
  | some x => exact h.2 x (List.mem_of_getElem? hk)
def four (n : Nat) (a b c d : List Int) : Bool := (List.range (2 ^ n)).all fun s => (List.range (2 ^ n)).all fun t => !decide (a.getD s 0 * b.getD t 0 > c.getD (s ||| t) 0 * d.getD (s &&& t) 0)
end Go.Proofs.Ytgojkabjgagjcaa
set_option linter.unusedSimpArgs false
set_option linter.unusedVariables false
set_option linter.unusedSectionVars false
set_option maxRecDepth 20000
namespace Go.Proofs.Ytgojkabjgagjcaa
attribute [local irreducible] QOp aL aC qL
def cloT (n : Nat) (l : List (Nat × Nat)) (k : Nat) : List Nat := (List.range k).map (clo n l)
end Go.Proofs.Ytgojkabjgagjcaa
set_option linter.unusedSimpArgs false
set_option linter.unusedVariables false
set_option linter.unusedSectionVars false
set_option maxRecDepth 20000
namespace Go.Proofs.Ytgojkabjgagjcaa
attribute [local irreducible] QOp aL aC qL
/-- A set that is not closed, but is as far as the rules of smaller ones go. -/
def skO (cl : Nat → Nat) (T : List Nat) (s : Nat) : Bool := decide (cl s ≠ s) && T.all fun t => !sub t s || sub (cl t) s
def skT (cl : Nat → Nat) : Nat → List Nat
  | 0 => []
  | k + 1 => if skO cl (skT cl k) k = true then skT cl k ++ [k] else skT cl k
def skw (cl : Nat → Nat) (s : Nat) : Bool := skO cl (skT cl s) s
/-! Fewer marks. -/
/-- What the library has found so far. -/
def bsO (cl : Nat → Nat) (P : List Nat) (k : Nat) : List Nat := (P.take k).filter (skw cl)
end Go.Proofs.Ytgojkabjgagjcaa
set_option linter.unusedSimpArgs false
set_option linter.unusedVariables false
set_option linter.unusedSectionVars false
set_option maxRecDepth 20000
namespace Go.Proofs.Ytgojkabjgagjcaa
attribute [local irreducible] QOp aL aC qL
section
variable {P : Program} {st : St} {d : Option Tmp} {ty : TypeId} {pos : String} {af : Array Edge} {g : Option (Nat × Bool)}
/-- Two cells of an own row of pairs. -/
theorem Q_ld_ownP {x : Operand} {T e : TypeId} {l : List (Nat × Nat)} {id o : Nat} (hx : st.ev x = .ept id (o * 2)) (hob : st.objs[id]? = some (.row e 2 (pairc (pn l)))) (h : o < l.length) (ht : AgT P T 2) :
    QOp P ⟨d, .load T x, ty, pos, af, g⟩ st (.agg [.val (.int .i64 ((l.getD o (0, 0)).1 : Int)), .val (.int .i64 ((l.getD o (0, 0)).2 : Int))]) :=
  .run fun ρ w a hr => by
    have h' := hr.ev x
    rw [hx] at h'
    obtain ⟨b, n, cap, l', he, hl⟩ := h'.ept_inv
    obtain ⟨hρ, hrow⟩ := row_cells hr.good hob (.own id _ l' hl rfl)
    rcases hrow with ⟨h1, _⟩ | ⟨b', n', cap', h1, h2, h3, _, h4⟩
    · cases h1
    · cases h1
      have hg := pairc_get (l := pn l) (o := o) (by rw [pn_len]; exact h)
      rw [pn_get] at hg
      obtain ⟨v0, hv0, hr0⟩ := h4 (o * 2) _ hg.1
      obtain ⟨v1, hv1, hr1⟩ := h4 (o * 2 + 1) _ hg.2
      refine ⟨.agg #[v0, v1], .agg _ _ rfl fun i av v h5 h6 => ?_, fun w1 hw => ?_⟩
      · match i, h5, h6 with
        | 0, h5, h6 =>
          obtain rfl := Option.some.inj h5
          obtain rfl := Option.some.inj h6
          exact gm_ofD hr0
        | 1, h5, h6 =>
          obtain rfl := Option.some.inj h5
          obtain rfl := Option.some.inj h6
          exact gm_ofD hr1
      · have c0 : w1.cell? ⟨b, o * 2, none⟩ = some v0 := by rw [hw.cell (p := ⟨b, o * 2, none⟩) h3]; exact hv0
        have c1 : w1.cell? ⟨b, o * 2 + 1, none⟩ = some v1 := by rw [hw.cell (p := ⟨b, o * 2 + 1, none⟩) h3]; exact hv1
        have := run_loadAgg (P := P) (w := w1) ht ⟨b, o * 2, none⟩ [v0, v1] rfl fun j v hv => by
          match j, hv with
          | 0, hv => obtain rfl := Option.some.inj hv; exact c0
          | 1, hv => obtain rfl := Option.some.inj hv; exact c1
        simp [execOp, he, Instr.loadAt, Instr.sureAddr, this]
theorem Q_ix_ownP {x ix : Operand} {T e e' : TypeId} {l : List (Nat × Nat)} {id : Nat} {i : Int} {o : Nat} (hx : st.ev x = .own id) (hob : st.objs[id]? = some (.row e' 2 (pairc (pn l)))) (hi : st.ev ix = .val (.int .i64 i)) (ho : i = (o : Int)) (ht : SlT P T e 2) (h : o < l.length) :
    QOp P ⟨d, .indexAddr T x ix, ty, pos, af, g⟩ st (.ept id (o * 2)) := by
  have := Q_index_own (P := P) (d := d) (ty := ty) (pos := pos) (af := af) (g := g) (x := x) (ix := ix) hx hob hi ht (pairc_len (pn l)) (by decide) ⟨by omega, by rw [pn_len]; omega⟩
  rw [show i.toNat * 2 = o * 2 by omega] at this
  exact this
end
/-- Sets and what follows from them. -/
def rlP (cl : Nat → Nat) (T : List Nat) : List (Nat × Nat) := T.map fun t => (t, cl t)
end Go.Proofs.Ytgojkabjgagjcaa
set_option linter.unusedSimpArgs false
set_option linter.unusedVariables false
set_option linter.unusedSectionVars false
namespace Go.Proofs.Ytgojkabjgagjcaa
open Go.RowKit Go.MapKept
/-! Maps, plain: the entries one behind the other. -/
def mi (l : List (Int × Int)) : List (Value × Value) := l.map fun p => (.int .i64 p.1, .int .i64 p.2)
def mget : List (Int × Int) → Int → Option Int
  | [], _ => none
  | p :: r, k => if p.1 = k then some p.2 else mget r k
def midx : List (Int × Int) → Int → Nat
  | [], _ => 0
  | p :: r, k => if p.1 = k then 0 else midx r k + 1
def mput : List (Int × Int) → Int → Int → List (Int × Int)
  | [], k, v => [(k, v)]
  | p :: r, k, v => if p.1 = k then (k, v) :: r else p :: mput r k v
def mgd (l : List (Int × Int)) (k : Int) : Int := (mget l k).getD 0
/-- Every key is there just once. -/
def Mk (l : List (Int × Int)) : Prop := (l.map (·.1)).Nodup
/-! The machine's words. -/
/-- A type of maps from numbers to numbers. -/
def MpT (P : Program) (t : TypeId) : Prop := ∃ kt et, P.underlying t = some (.map kt et) ∧ P.underlying kt = some (.int .i64) ∧ MkT P et (.int .i64 0) 1 8
class KMp (P : Program) (t : TypeId) : Prop where h : MpT P t
end Go.Proofs.Ytgojkabjgagjcaa
set_option linter.unusedSimpArgs false
set_option linter.unusedVariables false
set_option linter.unusedSectionVars false
set_option maxRecDepth 20000
namespace Go.Proofs.Ytgojkabjgagjcaa
attribute [local irreducible] QOp aL aC qL
/-- Numbers by what has them. -/
def mmS : List Nat → Nat → List (Int × Int)
  | [], _ => []
  | x :: r, i => ((x : Int), (i : Int)) :: mmS r (i + 1)
theorem pairc_nil {l : List (Int × Int)} (h : pairc l = []) : l = [] := by
  cases l with
  | nil => rfl
  | cons x l => simp [pairc] at h
theorem CloneP_ac (l : List (Int × Int)) (hl : l.length ≤ 100000) : AC Try.prog 38 [pairs l] [] (.own 0) [.row 43 2 (pairc l)] := by
  refine AC.mk (n := 8) (fn := Try.f38) Try.func38 (by kernel_rfl) rfl rfl rfl rfl (fun cx => ?_); dsimp only [argv, Nat.reduceAdd]
  (repeat' (first | refine w_nilownC 2 43 2 rfl (by first|(dsimp only[obA,obB,obD,obE,obF,obG,obI,List.map,AO.sh,AV.sh,AV.shl,Nat.reduceAdd];done)|exact rfl) rfl ?_ | (first | refine a_seq ?_ | refine a_skip ?_ | refine a_ret ?_ | refine a_region ?_ | refine l_nil ?_ | (apply w_q; (focus (first | exact Q_move (by conv => lhs; whnf) | exact Q_assign (by conv => lhs; whnf))); (focus exact rfl)) | (refine a_cond rfl ?_ ?_ <;> (intro h; (try (have hp := of_decide_eq_true h)); (try (have hp := of_decide_eq_false h)); (try contradiction); (try (exfalso; omega)))) | ((refine w_eqnil rfl rfl KSl.h rfl ?_; intro b hb; cases b)) | (refine w_lit_e (by decide) KSl.h KMk.h (by first|(dsimp only[obA,obB,obD,obE,obF,obG,obI,List.map,AO.sh,AV.sh,AV.shl,Nat.reduceAdd];done)|exact rfl) rfl rfl ?_) | (refine w_ap_pairsR (l := []) rfl rfl rfl KSl.h KMk.h (by simp; omega) (by first|(dsimp only[obA,obB,obD,obE,obF,obG,obI,List.map,AO.sh,AV.sh,AV.shl,Nat.reduceAdd];done)|exact rfl) rfl rfl ?_)))); (try all_goals (try show retA _ _ _ _ _ _ _))
  · refine ⟨[_], [2], ⟨resV_tmp (by conv => lhs; whnf), trivial⟩, VwOs.mk (by decide) ⟨⟨_, rfl, .row _ _ _⟩, trivial⟩, ?_, rfl⟩
    (repeat' (first | exact Vw.own _ _ rfl))
  · obtain rfl := pairc_nil (hb rfl)
    refine ⟨[_], [1], ⟨resV_tmp (by conv => lhs; whnf), trivial⟩, VwOs.mk (by decide) ⟨⟨_, rfl, .row _ _ _⟩, trivial⟩, ?_, rfl⟩
    (repeat' (first | exact Vw.own _ _ rfl))
end Go.Proofs.Ytgojkabjgagjcaa
