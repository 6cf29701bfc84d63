import Derived.Test.YtpfldhaaiglgdaaDoorEngZd
set_option linter.unusedSimpArgs false
set_option linter.unusedVariables false
set_option linter.unusedSectionVars false
namespace Go.Proofs.YtpfldhaaiglgdaaDoor
open Go.RowKit
section
variable {P : Program} {k : Nat} {cx : Cx k} {ops : Array Oper} {Q : Exit → St → Prop} {K : St → Prop} {l2 : List Oper} {rest : List Oper} {ty : TypeId} {pos : String} {af : Array Edge} {d nn m n g f i : Nat} {vars : List (Nat × AV)} {objs objs' : List AO} {listed : List Bool} {r : List Nat}
theorem a_growQ [Zs] {id : Nat} {l : List Oper} {st : St} (m : Nat) (hm : P.follows .mixedOrders = true) (hB : (Nat.blt m l.length && decide (l.length = m + g)) = true)
    (h : zL P cx l.toArray (fun st => Q .normal st) (l.drop m) m g m (List.replicate l.length false) st) : aC P cx (.region id l.toArray true) Q st :=
  a_mono (a_grow (Q := Q) m hm hB h) fun e st h => by cases e <;> exact h
/-- One that takes no memory goes first. -/
theorem zw_p [Zs] (i : Nat) {op : Op} {av : AV} (hi : ops[i]? = some ⟨some d, op, ty, pos, af, none⟩)
    (hb : (Region.noSelect ops && Region.sinkB .any ops n && Region.chainB .any ops n && Nat.blt n ops.size && Nat.blt i n && Region.free .any ops listed.toArray i && (Region.ready .any ops listed.toArray).contains i) = true)
    (hq : POp P ⟨some d, op, ty, pos, af, none⟩ ⟨nn, vars, objs⟩ av) (hd : Nat.blt d nn = true) (h : zL P cx ops K l2 n g f (listed.set i true) ⟨nn, (d, av) :: vars, objs⟩) : zL P cx ops K l2 n g (f + 1) listed ⟨nn, vars, objs⟩ := by
  simp only [Bool.and_eq_true, Nat.blt_eq] at hb
  obtain ⟨⟨⟨⟨⟨⟨b1, b2⟩, b3⟩, b4⟩, b5⟩, b6⟩, b7⟩ := hb
  intro inv a w hr
  obtain ⟨ρ, hb, hf, h0⟩ := hr.base
  obtain ⟨v, hg, hv⟩ := hq _ ρ w a hb
  have hr' : i ∈ Region.ready .any ops listed.toArray := by simpa using b7
  refine anyGrow_first hi (Region.noSelect_spec b1) b2 b3 b4 b5 (fun listed a w hL => seqB_ready hL.1) (fun c a w hp => ?_) f listed.toArray a w inv (Region.free_spec hi b6) hr' (v := v)
    (.inl ⟨by simp [Region.wanted], fun w1 _ => hv w1⟩) (Below.refl _ _) ?_
  · obtain ⟨st', h1, _⟩ := hp
    exact h1.elim
  · have e : listed.toArray.setIfInBounds i true = (listed.set i true).toArray := by simp
    rw [e]
    exact h (by rw [← e]; exact inv.set hr' b5) _ _ ⟨⟨ρ, hb.put (st := ⟨nn, vars, objs⟩) hd hg, hf, h0⟩, hr.same⟩
end
end Go.Proofs.YtpfldhaaiglgdaaDoor
