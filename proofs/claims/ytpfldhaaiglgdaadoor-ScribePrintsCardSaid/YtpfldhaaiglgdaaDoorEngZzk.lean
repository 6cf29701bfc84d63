import Derived.Test.YtpfldhaaiglgdaaDoorEngZzg
import Derived.Test.YtpfldhaaiglgdaaDoorEngT
import Derived.StringKeys
import Derived.Laws.IdiomStrings
set_option linter.unusedSimpArgs false
set_option linter.unusedVariables false
set_option linter.unusedSectionVars false
namespace Go.Proofs.YtpfldhaaiglgdaaDoor
open Go.RowKit
def bytc (l : List Nat) : List Dat := l.map fun (b : Nat) => .val (.int .u8 (b : Int))
theorem bytc_len (l : List Nat) : (bytc l).length = l.length * 1 := by simp [bytc]
/-- A string of bytes. -/
def strK (l : List Nat) : Value := .string ⟨(l.map UInt8.ofNat).toArray⟩
theorem u8_back {v : Nat} (h : v < 256) : ((UInt8.ofNat v).toNat : Int) = (v : Int) := by
  rw [UInt8.toNat_ofNat']
  rw [Nat.mod_eq_of_lt h]
section
variable {P : Program} {st : St} {d : Option Tmp} {ty : TypeId} {pos : String} {af : Array Edge} {g : Option (Nat × Bool)}
/-- string(b), b an own row of bytes. -/
theorem Q_str {x : Operand} {S T e e' : TypeId} {l : List Nat} {id : Nat} (hx : st.ev x = .own id) (hob : st.objs[id]? = some (.row e' 1 (bytc l))) (hS : P.underlying S = some (.slice e)) (he : P.underlying e = some (.int .u8)) (hT : P.underlying T = some .string) (h0 : 0 < l.length) (hb : ∀ x ∈ l, x < 256) :
    QOp P ⟨d, .convert S T x, ty, pos, af, g⟩ st (.val (strK l)) :=
  .run fun ρ w a hr => by
    have h' := hr.ev x
    rw [hx] at h'
    obtain ⟨l', hl⟩ := h'.own_inv
    obtain ⟨hρ, hrow⟩ := row_cells hr.good hob h'
    rcases hrow with ⟨h1, h2⟩ | ⟨b', n', cap', h1, h2, h3, _, h4⟩
    · have := bytc_len l
      rw [h2, List.length_nil] at this
      omega
    · refine ⟨strK l, .val _, fun w1 hw => ?_⟩
      have hn : n' = l.length := by rw [bytc_len] at h2; omega
      have hlen : (l.map UInt8.ofNat).length = l.length := List.length_map _
      have := run_convert_bytes_back (P := P) w1 S T e ⟨b', 0, none⟩ cap' (l.map UInt8.ofNat) hS he hT fun j hj => by
        have hj' : j < l.length := by rwa [hlen] at hj
        have hd : (bytc l)[j]? = some (.val (.int .u8 ((l[j] : Nat) : Int))) := by simp [bytc, hj']
        obtain ⟨v, hv, hrd⟩ := h4 j _ hd
        cases hrd
        have hc := hw.cell (p := ⟨b', j, none⟩) h3
        rw [hv] at hc
        simp only [List.getElem_map]
        rw [u8_back (hb _ (List.getElem_mem hj'))]
        have ea : (⟨b', 0, none⟩ : Addr).add j = ⟨b', j, none⟩ := by
          unfold Addr.add
          split
          · rename_i h0; subst h0; rfl
          · simp
        rw [ea]
        exact hc
      rw [hlen, ← hn] at this
      rw [hn] at this
      simp only [execOp, h1, hn]
      simp [this, strK]
/-! An own row of rows. -/
end
end Go.Proofs.YtpfldhaaiglgdaaDoor
