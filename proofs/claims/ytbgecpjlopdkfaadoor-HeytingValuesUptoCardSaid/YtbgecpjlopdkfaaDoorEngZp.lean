import Derived.Test.YtbgecpjlopdkfaaDoorEngT
import Derived.Test.YtbgecpjlopdkfaaDoorEngA
import Derived.MapKept
set_option linter.unusedSimpArgs false
set_option linter.unusedVariables false
set_option linter.unusedSectionVars false
namespace Go.Proofs.YtbgecpjlopdkfaaDoor
mutual
/-- It hangs on nothing of the call's own. -/
def roA : AV → Bool
  | .val _ => true
  | .ro _ => true
  | .rpt _ _ => true
  | .agg l => roL l
  | .tup l => roL l
  | .clo _ l => roL l
  | _ => false
def roL : List AV → Bool
  | [] => true
  | a :: l => roA a && roL l
end
mutual
theorem roA_fr : ∀ (a : AV) (id : Nat) (d : Dat), roA a = true → a.fr id d = a
  | .val _, _, _, _ => rfl
  | .ro _, _, _, _ => rfl
  | .rpt _ _, _, _, _ => rfl
  | .agg l, id, d, h => by
    show AV.agg (AV.frl id d l) = _
    rw [roL_frl l id d (by unfold roA at h; exact h)]
  | .tup l, id, d, h => by
    show AV.tup (AV.frl id d l) = _
    rw [roL_frl l id d (by unfold roA at h; exact h)]
  | .clo f l, id, d, h => by
    show AV.clo f (AV.frl id d l) = _
    rw [roL_frl l id d (by unfold roA at h; exact h)]
  | .own _, _, _, h => by unfold roA at h; cases h
  | .ptr _ _, _, _, h => by unfold roA at h; cases h
  | .ept _ _, _, _, h => by unfold roA at h; cases h
  | .any, _, _, h => by unfold roA at h; cases h
theorem roL_frl : ∀ (l : List AV) (id : Nat) (d : Dat), roL l = true → AV.frl id d l = l
  | [], _, _, _ => rfl
  | a :: l, id, d, h => by
    unfold roL at h
    obtain ⟨h1, h2⟩ := Bool.and_eq_true _ _ ▸ h
    show a.fr id d :: AV.frl id d l = _
    rw [roA_fr a id d h1, roL_frl l id d h2]
end
/-- What is known of a function, as a reading. -/
def fnd (cl : AV) : FnD := ⟨fun w M v => Gm [] w M cl v ∧ v.oneCell' = true, fun _ _ _ h => h.2, fun _ _ _ _ _ hs hM h => ⟨h.1.mono hs hM fun _ _ h => h, h.2⟩⟩
end Go.Proofs.YtbgecpjlopdkfaaDoor
set_option linter.unusedSimpArgs false
set_option linter.unusedVariables false
set_option linter.unusedSectionVars false
namespace Go.Proofs.YtbgecpjlopdkfaaDoor
open Go.RowKit Go.MapKept
/-! Maps, plain: the entries one behind the other. -/
def mi (l : List (Int × Int)) : List (Value × Value) := l.map fun p => (.int .i64 p.1, .int .i64 p.2)
def mget : List (Int × Int) → Int → Option Int
  | [], _ => none
  | p :: r, k => if p.1 = k then some p.2 else mget r k
def midx : List (Int × Int) → Int → Nat
  | [], _ => 0
  | p :: r, k => if p.1 = k then 0 else midx r k + 1
def mput : List (Int × Int) → Int → Int → List (Int × Int)
  | [], k, v => [(k, v)]
  | p :: r, k, v => if p.1 = k then (k, v) :: r else p :: mput r k v
def mgd (l : List (Int × Int)) (k : Int) : Int := (mget l k).getD 0
/-- Every key is there just once. -/
def Mk (l : List (Int × Int)) : Prop := (l.map (·.1)).Nodup
/-! The machine's words. -/
/-- A type of maps from numbers to numbers. -/
def MpT (P : Program) (t : TypeId) : Prop := ∃ kt et, P.underlying t = some (.map kt et) ∧ P.underlying kt = some (.int .i64) ∧ MkT P et (.int .i64 0) 1 8
class KMp (P : Program) (t : TypeId) : Prop where h : MpT P t
end Go.Proofs.YtbgecpjlopdkfaaDoor
