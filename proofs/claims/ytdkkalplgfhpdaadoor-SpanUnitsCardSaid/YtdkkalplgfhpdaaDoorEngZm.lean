import Derived.Test.YtdkkalplgfhpdaaDoorEngT
set_option linter.unusedSimpArgs false
set_option linter.unusedVariables false
set_option linter.unusedSectionVars false
namespace Go.Proofs.YtdkkalplgfhpdaaDoor
mutual
/-- It hangs on nothing of the call's own. -/
def roA : AV → Bool
  | .val _ => true
  | .ro _ => true
  | .rpt _ _ => true
  | .agg l => roL l
  | .tup l => roL l
  | .clo _ l => roL l
  | _ => false
def roL : List AV → Bool
  | [] => true
  | a :: l => roA a && roL l
end
theorem roL_get : ∀ {l : List AV} {i : Nat} {a : AV}, roL l = true → l[i]? = some a → roA a = true
  | [], i, a, _, h => by simp at h
  | b :: l, 0, a, hl, h => by
    simp only [List.getElem?_cons_zero, Option.some.injEq] at h
    subst h
    unfold roL at hl
    exact (Bool.and_eq_true _ _ ▸ hl).1
  | b :: l, i + 1, a, hl, h => by
    unfold roL at hl
    exact roL_get (Bool.and_eq_true _ _ ▸ hl).2 (by simpa using h)
theorem roA_gm {ρ ρ' : Ids} {w : World} {M : Nat → Prop} {av : AV} {v : Value} (h : Gm ρ w M av v) : roA av = true → Gm ρ' w M av v := by
  induction h with
  | val v => exact fun _ => .val v
  | ro d v hr => exact fun _ => .ro d v hr
  | own id v l hv h1 => intro h; unfold roA at h; cases h
  | ptr id off b l hv => intro h; unfold roA at h; cases h
  | ept id k b n cap l hv => intro h; unfold roA at h; cases h
  | rpt a cs off us hsp hMk hc hr => exact fun _ => .rpt a cs off us hsp hMk hc hr
  | agg l vs hl _ ih => exact fun h => .agg l vs hl fun i av v h1 h2 => ih i av v h1 h2 (roL_get (by unfold roA at h; exact h) h1)
  | tup l vs hl _ ih => exact fun h => .tup l vs hl fun i av v h1 h2 => ih i av v h1 h2 (roL_get (by unfold roA at h; exact h) h1)
  | clo f l vs hl _ ih => exact fun h => .clo f l vs hl fun i av v h1 h2 => ih i av v h1 h2 (roL_get (by unfold roA at h; exact h) h1)
  | any v => intro h; unfold roA at h; cases h
mutual
theorem roA_fr : ∀ (a : AV) (id : Nat) (d : Dat), roA a = true → a.fr id d = a
  | .val _, _, _, _ => rfl
  | .ro _, _, _, _ => rfl
  | .rpt _ _, _, _, _ => rfl
  | .agg l, id, d, h => by
    show AV.agg (AV.frl id d l) = _
    rw [roL_frl l id d (by unfold roA at h; exact h)]
  | .tup l, id, d, h => by
    show AV.tup (AV.frl id d l) = _
    rw [roL_frl l id d (by unfold roA at h; exact h)]
  | .clo f l, id, d, h => by
    show AV.clo f (AV.frl id d l) = _
    rw [roL_frl l id d (by unfold roA at h; exact h)]
  | .own _, _, _, h => by unfold roA at h; cases h
  | .ptr _ _, _, _, h => by unfold roA at h; cases h
  | .ept _ _, _, _, h => by unfold roA at h; cases h
  | .any, _, _, h => by unfold roA at h; cases h
theorem roL_frl : ∀ (l : List AV) (id : Nat) (d : Dat), roL l = true → AV.frl id d l = l
  | [], _, _, _ => rfl
  | a :: l, id, d, h => by
    unfold roL at h
    obtain ⟨h1, h2⟩ := Bool.and_eq_true _ _ ▸ h
    show a.fr id d :: AV.frl id d l = _
    rw [roA_fr a id d h1, roL_frl l id d h2]
end
/-- What is known of a function, as a reading. -/
def fnd (cl : AV) : FnD := ⟨fun w M v => Gm [] w M cl v ∧ v.oneCell' = true, fun _ _ _ h => h.2, fun _ _ _ _ _ hs hM h => ⟨h.1.mono hs hM fun _ _ h => h, h.2⟩⟩
section
variable {P : Program} {k : Nat} {cx : Cx k} {ops : Array Oper} {Q : Exit → St → Prop} {st : St} {rest : List Oper}
end
end Go.Proofs.YtdkkalplgfhpdaaDoor
