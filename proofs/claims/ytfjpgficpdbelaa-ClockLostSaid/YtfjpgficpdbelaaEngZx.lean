import Derived.Test.YtfjpgficpdbelaaEngT
import Derived.Test.YtfjpgficpdbelaaEngZh
set_option linter.unusedSimpArgs false
set_option linter.unusedVariables false
set_option linter.unusedSectionVars false
namespace Go.Proofs.Ytfjpgficpdbelaa
open Go.RowKit
section
variable {P : Program} {st : St} {d : Option Tmp} {ty : TypeId} {pos : String} {af : Array Edge} {g : Option (Nat × Bool)} {T T' : TypeId} {x y ix : Operand}
theorem Q_ugeq {m n : Int} (hx : st.ev x = .val (.int .u64 m)) (hy : st.ev y = .val (.int .u64 n)) : QOp P ⟨d, .binOp .geq T x y T', ty, pos, af, g⟩ st (.val (.bool (decide (n ≤ m)))) := Q_bin hx hy fun _ => rfl
theorem Q_ixStr {s : ByteArray} {b : UInt8} {k : IntKind} {i : Nat} (hx : st.ev x = .val (.string s)) (hi : st.ev ix = .val (.int k (i : Int))) (hb : s[i]? = some b) (ht : P.underlying T = some .string) : QOp P ⟨d, .index T x ix, ty, pos, af, g⟩ st (.val (.int .u8 (b.toNat : Int))) :=
  .run fun ρ w a hr => ⟨_, .val _, fun w1 _ => by
    have h0 : (0 : Int) ≤ (i : Int) := by omega
    simp only [execOp, hr.evv hx, hr.evv hi, Instr.index, asIntOf, Sem.run_bind, Sem.run_pure, Result.andThen_ok, run_underlying ht]
    simp [h0, hb]⟩
/-- s[:len(s):len(s)], s only read. -/
theorem Q_clip {x hi mx : Operand} {T e : TypeId} {l : List Int} {i : Int} (hx : st.ev x = ints l) (hi' : st.ev hi = .val (.int .i64 i)) (hm' : st.ev mx = .val (.int .i64 i)) (hk : i = (l.length : Int)) (ht : SlT P T e 1) :
    QOp P ⟨d, .slice T x none (some hi) (some mx), ty, pos, af, g⟩ st (ints l) :=
  .run fun ρ w a hr => by
    have hg := hr.ev x
    rw [hx] at hg
    have hrd : Rd w (Ban ρ st.objs) (a.eval x) (.sl 1 (intc l)) := hg.ro_inv
    have hn : (intc l).length = l.length := by rw [intc_len, Nat.mul_one]
    obtain ⟨h1, h2⟩ := slT_elem ht
    unfold ints
    generalize intc l = cs at *
    obtain ⟨u, hu⟩ : ∃ u, a.eval x = u := ⟨_, rfl⟩
    rw [hu] at hrd
    subst hk
    cases hrd with
    | nil _ =>
      rw [List.length_nil] at hn
      have hk0 : l.length = 0 := by omega
      rw [hk0] at hi' hm'
      refine ⟨.slice none 0 0, .ro _ _ (.nil 1), fun w1 _ => ?_⟩
      have hz : (sizeOf (P.elem T)).run P w1 = .ok 1 w1 := by rw [h1]; exact ht.2.run w1
      simp only [execOp, hu, hr.evv hi', hr.evv hm', Option.map, run_sliceAt_slice w1 T _ _ _ _ h2, Sem.run_bind, run_slice_hm w1 T none 0 0 h2 .i64 .i64 ((0 : Nat) : Int) ((0 : Nat) : Int) (by omega) (by omega) (by omega), hz, Result.andThen_ok, Sem.run_pure]
      rfl
    | sl ad n' cap _ _ us hn' hsp hM hc hd =>
      have hnn : l.length = n' := by omega
      subst hnn
      have hz : ∀ w1, (sizeOf (P.elem T)).run P w1 = .ok 1 w1 := fun w1 => by rw [h1]; exact ht.2.run w1
      refine ⟨.slice (if l.length = 0 then some ad else some (ad.add 0)) l.length l.length, .ro _ _ ?_, fun w1 _ => ?_⟩
      · by_cases hck : l.length = 0
        · rw [if_pos hck]
          exact .sl ad l.length l.length 1 cs us (by omega) (Nat.le_refl _) hM hc hd
        · rw [if_neg hck]
          have hb' : (ad.add 0).block = ad.block := by unfold Addr.add; split <;> rfl
          refine .sl (ad.add 0) l.length l.length 1 cs us (by omega) (Nat.le_refl _) (fun j hj => by rw [hb']; exact hM j hj) (fun j dt hj => ?_) hd
          rw [add_add', Nat.zero_add]
          exact hc j dt hj
      · simp only [execOp, hu, hr.evv hi', hr.evv hm', Option.map, run_sliceAt_slice w1 T _ _ _ _ h2, Sem.run_bind, run_slice_hm w1 T (some ad) l.length cap h2 .i64 .i64 ((l.length : Nat) : Int) ((l.length : Nat) : Int) (by omega) (by omega) (by omega), hz, Result.andThen_ok, Sem.run_pure, sliced]
        simp
end
end Go.Proofs.Ytfjpgficpdbelaa
