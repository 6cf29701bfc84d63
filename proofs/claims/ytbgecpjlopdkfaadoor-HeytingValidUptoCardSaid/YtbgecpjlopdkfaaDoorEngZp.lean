import Derived.Test.YtbgecpjlopdkfaaDoorEngR
import Derived.Test.YtbgecpjlopdkfaaDoorEngZj
import Derived.Test.YtbgecpjlopdkfaaDoorEngT
import Derived.Test.YtbgecpjlopdkfaaDoorEngA
import Derived.MapKept
set_option linter.unusedSimpArgs false
set_option linter.unusedVariables false
set_option linter.unusedSectionVars false
namespace Go.Proofs.YtbgecpjlopdkfaaDoor
open Go.ChangeShapes Go.WideShapes Go.RowKit
section
variable {H : Type} {enc : TypeId × Value → H} {P : Program} {w : World} {base : Nat} {spare : Nat → Bool} {held : Bool} {t e a : TypeId} {r : Go.Reach} {b0 : Nat} {v : Value} {d : DataW H} {ps : List MemPlace}
/-- A struct of a number and two tables. -/
theorem arg_lat {f0 f1 f2 : Field} (ht : P.underlying t = some (.struct #[f0, f1, f2])) (hC : P.cellsOf t = 3) (o0 : f0.offset = 0) (o1 : f1.offset = 1) (o2 : f2.offset = 2) (h0 : P.underlying f0.type = some (.int .i64)) (c0 : P.cellsOf f0.type = 1)
    (h1 : P.underlying f1.type = some (.slice e)) (c1 : P.cellsOf f1.type = 1) (h2 : P.underlying f2.type = some (.slice e)) (c2 : P.cellsOf f2.type = 1) (he : P.underlying e = some (.slice a)) (ha : P.underlying a = some (.int .i64)) (hc : P.cellsOf e = 1) (hca : P.cellsOf a = 1)
    (hval : Value.okWide P w r b0 t v) (hd : DataW.Trod enc P w base spare held t v d ps) :
    ∃ N m j u u', v = .agg #[.int .i64 N, u, u'] ∧ Rd w noM u (.sl 1 (rowc m)) ∧ Rd w noM u' (.sl 1 (rowc j)) ∧ I64 N ∧ ((∀ r ∈ m, (∀ x ∈ r, I64 x) ∧ r.length ≤ big) ∧ m.length ≤ big) ∧ (∀ r ∈ j, (∀ x ∈ r, I64 x) ∧ r.length ≤ big) ∧ j.length ≤ big := by
  obtain ⟨cs, rfl, hsz⟩ := okWide_struct ht hval
  obtain ⟨fuel, hf⟩ := hd
  obtain ⟨l⟩ := cs
  match l, hsz.trans hC with
  | [a0, a1, a2], _ =>
    obtain ⟨xs, n, _, _, _, hlen, hg⟩ := DataW.trod_struct ht hf
    match xs, hlen with
    | [x0, x1, x2], _ =>
      have g0 := hg 0 f0 rfl
      have g1 := hg 1 f1 rfl
      have g2 := hg 2 f2 rfl
      simp [Value.cells, o0, o1, o2, c0, c1, c2] at g0 g1 g2
      obtain ⟨N, e0, b0⟩ := rd_int h0 g0
      obtain ⟨u, l, e1, b1, b2, b3⟩ := rd_rows h1 he ha hc hca g1
      obtain ⟨u', l', e2, d1, d2, d3⟩ := rd_rows h2 he ha hc hca g2
      simp at e0 e1 e2
      subst e0; subst e1; subst e2
      exact ⟨N, l, l', a1, a2, rfl, b1, d1, b0, ⟨b2, b3⟩, d2, d3⟩
end
theorem gm_lat {w : World} {u u' : Value} {N : Int} {m j : List (List Int)} (h : Rd w noM u (.sl 1 (rowc m))) (h' : Rd w noM u' (.sl 1 (rowc j))) : Gm [] w (Ban [] []) (latA N m j) (.agg #[.int .i64 N, u, u']) :=
  .agg _ _ rfl fun i av v h1 h2 => by
    match i with
    | 0 => simp at h1 h2; subst h1; subst h2; exact .val _
    | 1 => simp at h1 h2; subst h1; subst h2; exact gm_rows h
    | 2 => simp at h1 h2; subst h1; subst h2; exact gm_rows h'
    | i + 3 => simp at h1
end Go.Proofs.YtbgecpjlopdkfaaDoor
set_option linter.unusedSimpArgs false
set_option linter.unusedVariables false
set_option linter.unusedSectionVars false
namespace Go.Proofs.YtbgecpjlopdkfaaDoor
mutual
/-- It hangs on nothing of the call's own. -/
def roA : AV → Bool
  | .val _ => true
  | .ro _ => true
  | .rpt _ _ => true
  | .agg l => roL l
  | .tup l => roL l
  | .clo _ l => roL l
  | _ => false
def roL : List AV → Bool
  | [] => true
  | a :: l => roA a && roL l
end
mutual
theorem roA_fr : ∀ (a : AV) (id : Nat) (d : Dat), roA a = true → a.fr id d = a
  | .val _, _, _, _ => rfl
  | .ro _, _, _, _ => rfl
  | .rpt _ _, _, _, _ => rfl
  | .agg l, id, d, h => by
    show AV.agg (AV.frl id d l) = _
    rw [roL_frl l id d (by unfold roA at h; exact h)]
  | .tup l, id, d, h => by
    show AV.tup (AV.frl id d l) = _
    rw [roL_frl l id d (by unfold roA at h; exact h)]
  | .clo f l, id, d, h => by
    show AV.clo f (AV.frl id d l) = _
    rw [roL_frl l id d (by unfold roA at h; exact h)]
  | .own _, _, _, h => by unfold roA at h; cases h
  | .ptr _ _, _, _, h => by unfold roA at h; cases h
  | .ept _ _, _, _, h => by unfold roA at h; cases h
  | .any, _, _, h => by unfold roA at h; cases h
theorem roL_frl : ∀ (l : List AV) (id : Nat) (d : Dat), roL l = true → AV.frl id d l = l
  | [], _, _, _ => rfl
  | a :: l, id, d, h => by
    unfold roL at h
    obtain ⟨h1, h2⟩ := Bool.and_eq_true _ _ ▸ h
    show a.fr id d :: AV.frl id d l = _
    rw [roA_fr a id d h1, roL_frl l id d h2]
end
/-- What is known of a function, as a reading. -/
def fnd (cl : AV) : FnD := ⟨fun w M v => Gm [] w M cl v ∧ v.oneCell' = true, fun _ _ _ h => h.2, fun _ _ _ _ _ hs hM h => ⟨h.1.mono hs hM fun _ _ h => h, h.2⟩⟩
end Go.Proofs.YtbgecpjlopdkfaaDoor
set_option linter.unusedSimpArgs false
set_option linter.unusedVariables false
set_option linter.unusedSectionVars false
namespace Go.Proofs.YtbgecpjlopdkfaaDoor
open Go.RowKit Go.MapKept
/-! Maps, plain: the entries one behind the other. -/
def mi (l : List (Int × Int)) : List (Value × Value) := l.map fun p => (.int .i64 p.1, .int .i64 p.2)
def mget : List (Int × Int) → Int → Option Int
  | [], _ => none
  | p :: r, k => if p.1 = k then some p.2 else mget r k
def midx : List (Int × Int) → Int → Nat
  | [], _ => 0
  | p :: r, k => if p.1 = k then 0 else midx r k + 1
def mput : List (Int × Int) → Int → Int → List (Int × Int)
  | [], k, v => [(k, v)]
  | p :: r, k, v => if p.1 = k then (k, v) :: r else p :: mput r k v
def mgd (l : List (Int × Int)) (k : Int) : Int := (mget l k).getD 0
/-- Every key is there just once. -/
def Mk (l : List (Int × Int)) : Prop := (l.map (·.1)).Nodup
/-! The machine's words. -/
/-- A type of maps from numbers to numbers. -/
def MpT (P : Program) (t : TypeId) : Prop := ∃ kt et, P.underlying t = some (.map kt et) ∧ P.underlying kt = some (.int .i64) ∧ MkT P et (.int .i64 0) 1 8
class KMp (P : Program) (t : TypeId) : Prop where h : MpT P t
end Go.Proofs.YtbgecpjlopdkfaaDoor
