import Derived.Test.YtkapohfnoflhlaaDoorEngZi
import Derived.Test.YtkapohfnoflhlaaDoorEngZd
import Derived.Test.YtkapohfnoflhlaaDoorEngZm
set_option linter.unusedSimpArgs false
set_option linter.unusedVariables false
set_option linter.unusedSectionVars false
namespace Go.Proofs.YtkapohfnoflhlaaDoor
open Go.RowKit
section
variable {P : Program} {ops : Array Oper} {md : Region.Mode} {C S : World → Prop}
theorem anyH_of_quiet {Q : Act → Prop} {Q' : Exit → Act → World → Prop} (hS : ∀ w, C w → S w) (hQ : ∀ a w, C w → Q a → Q' .normal a w) : ∀ (fuel : Nat) (listed : Array Bool) (a : Act) (w : World), C w →
    wpAnyQ P md ops C Q fuel listed a → wpAnyH P md ops Q' S fuel listed a w
  | 0, _, _, _, hw, h => ⟨h.1, hQ _ _ hw h.2⟩
  | fuel + 1, _, _, _, hw, h => ⟨fun h0 => hQ _ _ hw (h.1 h0), fun i hi => wpOp_of_qOp hw (fun a' w' hw' hk => ⟨hS w' hw', anyH_of_quiet hS hQ fuel _ a' w' hw' hk⟩) (h.2 i hi)⟩
end
section
variable {P : Program} {k : Nat} {cx : Cx k} {ops : Array Oper} {st : St} {K : St → Prop} {S : World → Prop}
/-- What is left only reads: one order serves. -/
theorem xh_quiet [Zs] {f : Nat} {listed : List Bool} (kk : Nat) {l2 : List Oper} (hB : (Region.noSelect ops && Region.lexFrom .any ops f kk listed.toArray) = true) (hl : ops.toList.drop kk = l2) (hf : l2.length = f) (h : qL P ops K l2 st) : xH P cx ops K S f listed st := by
  subst hl
  simp only [Bool.and_eq_true] at hB
  obtain ⟨b1, b2⟩ := hB
  intro hS a w hr
  obtain ⟨ρ, hb, hfo, h0⟩ := hr.base
  refine anyH_of_quiet (C := Below w.heap.size w) (Q := fun a' => ∃ st', K st' ∧ st'.objs = st.objs ∧ RelB ρ w st' a') (fun w' hw' => hS w' (hr.mono hw').same) ?_ f _ a w (Below.refl _ _) ?_
  · rintro a' w' hw' ⟨st', hK, ho, hb'⟩
    refine ⟨st', hK, ⟨ρ, hb'.mono hw', ?_, h0⟩, (hr.mono hw').same⟩
    rw [ho]; exact hfo
  · have := wpAnyQ_lex (P := P) (C := Below w.heap.size w) (md := .any) b1 (ops.toList.drop kk) kk listed.toArray a (by simp) (by rw [hf]; exact b2) (h ρ w a hb)
    rwa [hf] at this
theorem a_holdN [Zs] {id : Nat} {l : List Oper} {n : Nat} {Q : Exit → St → Prop} (hm : P.follows .mixedOrders = true) (hn : l.length = n) (h : xH P cx l.toArray (fun st => Q .normal st) (fun _ => True) n (List.replicate n false) st) : aC P cx (.region id l.toArray true) Q st :=
  a_mono (a_holdX (Q := Q) hm hn h) fun e st h => by cases e <;> exact h
theorem P_lenS {x : Operand} {T e : TypeId} {sz : Nat} {cs : List Dat} {n : Nat} {cl : Callee} {ats : Array TypeId} {d : Option Tmp} {ty : TypeId} {pos : String} {af : Array Edge} {g : Option (Nat × Bool)} (hcl : cl = .builtin .len) (hx : st.ev x = .ro (.sl sz cs)) (hats : ats = #[T]) (ht : SlT P T e sz) (hn : cs.length = n * sz) (hsz : 0 < sz) :
    POp P ⟨d, .call ⟨cl, #[x], ats⟩, ty, pos, af, g⟩ st (.val (.int .i64 (n : Int))) := fun _ ρ w a hr => by
  subst hcl; subst hats
  have hg := hr.ev x
  rw [hx] at hg
  have hrd := hg.ro_inv
  refine ⟨_, .val _, fun w1 => ?_⟩
  have key : ∃ b c, a.eval x = .slice b n c := by
    generalize a.eval x = u at *
    cases hrd with
    | nil _ =>
      have := Nat.mul_eq_zero.1 hn.symm
      simp only [List.length_nil] at hn
      have : n = 0 := by rcases this with h | h <;> omega
      subst this
      exact ⟨_, _, rfl⟩
    | sl ad n' cap _ _ us hn' =>
      have hnn : n = n' := Nat.eq_of_mul_eq_mul_right hsz (hn.symm.trans hn')
      subst hnn
      exact ⟨_, _, rfl⟩
  obtain ⟨b, c, hk⟩ := key
  simp [execOp, resolve, invoke, builtin, hk, Builtin.len_, run_underlying ht.1, goInt]
theorem P_lenI {x : Operand} {T e : TypeId} {l : List Int} {d : Option Tmp} {ty : TypeId} {pos : String} {af : Array Edge} {g : Option (Nat × Bool)} (hx : st.ev x = ints l) (ht : SlT P T e 1) : POp P ⟨d, .call ⟨.builtin .len, #[x], #[T]⟩, ty, pos, af, g⟩ st (.val (.int .i64 (l.length : Int))) :=
  P_lenS rfl hx rfl ht (intc_len l) (by decide)
end
theorem w_boxfnL [Zs] {P : Program} {k : Nat} {cx : Cx k} {ops : Array Oper} {Q : Exit → St → Prop} {rest : List Oper} {n : Nat} {vars : List (Nat × AV)} {objs objs' : List AO} (id o : Nat) {cells : List AV} {cl : AV} (ho : objs[id]? = some (.box cells)) (hc : cells[o]? = some cl) (hro : roA cl = true) (h1 : cl.one = true) (hob : objs.set id (.box (cells.set o (.ro (.fn (fnd cl))))) = objs')
    (hk : aL P cx ops Q rest ⟨n, vars, objs'⟩) : aL P cx ops Q rest ⟨n, vars, objs⟩ := by
  subst hob
  exact fun a w hr => hk a w (rel_boxfn (st := ⟨n, vars, objs⟩) id o ho hc hro h1 hr)
end Go.Proofs.YtkapohfnoflhlaaDoor
