import Derived.Test.YtfjpgficpdbelaaEngZd
import Derived.Laws.Slices
set_option linter.unusedSimpArgs false
set_option linter.unusedVariables false
set_option linter.unusedSectionVars false
namespace Go.Proofs.Ytfjpgficpdbelaa
open Go.RowKit
section
variable {P : Program} {st : St} {d : Option Tmp} {ty : TypeId} {pos : String} {af : Array Edge} {g : Option (Nat × Bool)}
theorem slT_elem {P : Program} {T e : TypeId} {sz : Nat} (ht : SlT P T e sz) : P.elem T = e ∧ P.underlying T = some (.slice (P.elem T)) := by
  have h : P.elem T = e := by unfold Program.elem; rw [ht.1]
  exact ⟨h, by rw [h]; exact ht.1⟩
theorem P_sliceL {x lo : Operand} {T e : TypeId} {l : List Int} {i : Int} {k : Nat} (hx : st.ev x = ints l) (hi : st.ev lo = .val (.int .i64 i)) (hk : i = (k : Int)) (ht : SlT P T e 1) (h : k ≤ l.length) :
    POp P ⟨d, .slice T x (some lo) none none, ty, pos, af, g⟩ st (ints (l.drop k)) :=
  fun _ ρ w a hr => by
    have hg := hr.ev x
    rw [hx] at hg
    have hrd : Rd w (Ban ρ st.objs) (a.eval x) (.sl 1 (intc l)) := hg.ro_inv
    have hn : (intc l).length = l.length := by rw [intc_len, Nat.mul_one]
    have hdr : intc (l.drop k) = (intc l).drop k := by unfold intc; rw [List.map_drop]
    obtain ⟨h1, h2⟩ := slT_elem ht
    unfold ints
    rw [hdr]
    generalize intc l = cs at *
    obtain ⟨u, hu⟩ : ∃ u, a.eval x = u := ⟨_, rfl⟩
    rw [hu] at hrd
    subst hk
    cases hrd with
    | nil _ =>
      rw [List.length_nil] at hn
      have hk0 : k = 0 := by omega
      subst hk0
      refine ⟨.slice none 0 0, .ro _ _ (by rw [List.drop_nil]; exact .nil 1), fun w1 => ?_⟩
      have hz : (sizeOf (P.elem T)).run P w1 = .ok 1 w1 := by rw [h1]; exact ht.2.run w1
      simp only [execOp, hu, hr.evv hi, Option.map, run_sliceAt_slice w1 T _ _ _ _ h2, Sem.run_bind, run_slice_l w1 T none 0 0 h2 .i64 ((0 : Nat) : Int) (by omega) (by omega), hz, Result.andThen_ok, Sem.run_pure]
      rfl
    | sl ad n' cap _ _ us hn' hsp hM hc hd =>
      have hnn : l.length = n' := by omega
      have hz : ∀ w1, (sizeOf (P.elem T)).run P w1 = .ok 1 w1 := fun w1 => by rw [h1]; exact ht.2.run w1
      refine ⟨.slice (if cap = k then some ad else some (ad.add k)) (n' - k) (cap - k), .ro _ _ ?_, fun w1 => ?_⟩
      · by_cases hck : cap = k
        · rw [if_pos hck, List.drop_eq_nil_of_le (by omega), show n' - k = 0 by omega]
          exact .sl ad 0 _ 1 [] us rfl (Nat.zero_le _) (fun k hk => absurd hk (Nat.not_lt_zero k)) (fun k d hk => by simp at hk) (fun k d hk => by simp at hk)
        · rw [if_neg hck]
          have hb' : (ad.add k).block = ad.block := by unfold Addr.add; split <;> rfl
          refine .sl (ad.add k) (n' - k) (cap - k) 1 _ (fun j => us (k + j)) (by rw [List.length_drop]; omega) (by omega) (fun j hj => ?_) (fun j dt hj => ?_) (fun j dt hj => ?_)
          · rw [hb']
            rw [List.length_drop] at hj
            exact hM (k + j) (by omega)
          · rw [List.getElem?_drop] at hj
            rw [add_add']
            exact hc (k + j) dt hj
          · rw [List.getElem?_drop] at hj
            exact hd (k + j) dt hj
      · simp only [execOp, hu, hr.evv hi, Option.map, run_sliceAt_slice w1 T _ _ _ _ h2, Sem.run_bind, run_slice_l w1 T (some ad) n' cap h2 .i64 ((k : Nat) : Int) (by omega) (by omega), hz, Result.andThen_ok, Sem.run_pure, sliced]
        simp
end
theorem w_cutM {P : Program} {k : Nat} {cx : Cx k} [Zs] {x : Code} {Q : Exit → St → Prop} {n : Nat} {vars : List (Nat × AV)} {objs : List AO} {X : Type} (keep : List Nat) {vars0 : List (Nat × AV)} (hv : keepv keep vars = vars0) (mv : X → List (Nat × AV)) (ob : X → List AO) (I : X → Prop)
    (h1 : aC P cx x (thenA (fun st => ∃ z σ, I z ∧ st.le ⟨n, mv z ++ vars0, ob z⟩ σ ∧ fixB k σ = true) Q) ⟨n, vars, objs⟩) (h2 : ∀ z, I z → Q .normal ⟨n, mv z ++ vars0, ob z⟩) : aC P cx x Q ⟨n, vars, objs⟩ := by
  have _ := hv
  intro a w hr
  refine wp_mono (h1 a w hr) ?_
  rintro e a' w' ⟨st', q, r⟩
  cases e with
  | normal =>
    obtain ⟨z, σ, hi, hle, hσ⟩ := q
    exact ⟨_, h2 z hi, r.le hle hσ⟩
  | exit id => exact ⟨st', q, r⟩
  | goto l => exact ⟨st', q, r⟩
  | ret => exact ⟨st', q, r⟩
  | panic ch => exact ⟨st', q, r⟩
  | outgrown => exact ⟨st', q, r⟩
end Go.Proofs.Ytfjpgficpdbelaa
