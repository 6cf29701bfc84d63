import Derived.Test.YtbgecpjlopdkfaaDoorEngA
import Derived.Test.YtbgecpjlopdkfaaDoorEngZl
import Derived.Test.YtbgecpjlopdkfaaDoorEngZd
import Derived.Laws.Slices
set_option linter.unusedSimpArgs false
set_option linter.unusedVariables false
set_option linter.unusedSectionVars false
namespace Go.Proofs.YtbgecpjlopdkfaaDoor
theorem AC.vw0 {P : Program} {f : FuncId} {args : List AV} {res res2 : AV} {objs' : List AO} (h : AC P f args [] res objs') (hv : Vw objs' [] res res2) : AC P f args [] res2 [] := by
  obtain ⟨h1, h2⟩ := h
  refine ⟨h1, ?_⟩
  intro _ ρ w vs hg hsz ha
  refine Calls.mono (h2 ρ w vs hg hsz ha) ?_
  rintro e w' ⟨v, ρ', he, hs, hg', hm, hid, hown⟩
  have hρ : ρ = [] := List.eq_nil_of_length_eq_zero (by have := hg.len; simpa using this)
  have ho : VwOs objs' [] [] := VwOs.mk (by decide) trivial
  refine ⟨v, [], he, hs, ?_, ?_, ?_, ?_⟩
  · have := hg'.view ho; exact this
  · have := hv.gm hg' ho v hm; exact this
  · intro id l hl; subst hρ; exact hl
  · rintro b ⟨id, o, l, h1, _⟩ _
    simp at h1
end Go.Proofs.YtbgecpjlopdkfaaDoor
set_option linter.unusedSimpArgs false
set_option linter.unusedVariables false
set_option linter.unusedSectionVars false
namespace Go.Proofs.YtbgecpjlopdkfaaDoor
open Go.RowKit
section
variable {P : Program} {st : St} {d : Option Tmp} {ty : TypeId} {pos : String} {af : Array Edge} {g : Option (Nat × Bool)} {T T' : TypeId} {x y ix : Operand}
theorem Q_ugeq {m n : Int} (hx : st.ev x = .val (.int .u64 m)) (hy : st.ev y = .val (.int .u64 n)) : QOp P ⟨d, .binOp .geq T x y T', ty, pos, af, g⟩ st (.val (.bool (decide (n ≤ m)))) := Q_bin hx hy fun _ => rfl
theorem Q_ixStr {s : ByteArray} {b : UInt8} {k : IntKind} {i : Nat} (hx : st.ev x = .val (.string s)) (hi : st.ev ix = .val (.int k (i : Int))) (hb : s[i]? = some b) (ht : P.underlying T = some .string) : QOp P ⟨d, .index T x ix, ty, pos, af, g⟩ st (.val (.int .u8 (b.toNat : Int))) :=
  .run fun ρ w a hr => ⟨_, .val _, fun w1 _ => by
    have h0 : (0 : Int) ≤ (i : Int) := by omega
    simp only [execOp, hr.evv hx, hr.evv hi, Instr.index, asIntOf, Sem.run_bind, Sem.run_pure, Result.andThen_ok, run_underlying ht]
    simp [h0, hb]⟩
end
end Go.Proofs.YtbgecpjlopdkfaaDoor
