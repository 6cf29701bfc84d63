import Derived.Test.YtdbngpkbamhbeaaEngZh
set_option linter.unusedSimpArgs false
set_option linter.unusedVariables false
set_option linter.unusedSectionVars false
namespace Go.Proofs.Ytdbngpkbamhbeaa
open Go.RowKit
section
variable {P : Program} {st : St} {d : Option Tmp} {ty : TypeId} {pos : String} {af : Array Edge} {g : Option (Nat × Bool)}
theorem P_sliceLs {x lo : Operand} {T e : TypeId} {cs : List Dat} {sz m : Nat} {i : Int} {k : Nat} (hx : st.ev x = .ro (.sl sz cs)) (hcs : cs.length = m * sz) (hsz : 0 < sz) (hi : st.ev lo = .val (.int .i64 i)) (hk : i = (k : Int)) (ht : SlT P T e sz) (h : k ≤ m) :
    POp P ⟨d, .slice T x (some lo) none none, ty, pos, af, g⟩ st (.ro (.sl sz (cs.drop (k * sz)))) :=
  fun _ ρ w a hr => by
    have hg := hr.ev x
    rw [hx] at hg
    have hrd : Rd w (Ban ρ st.objs) (a.eval x) (.sl sz cs) := hg.ro_inv
    obtain ⟨h1, h2⟩ := slT_elem ht
    obtain ⟨u, hu⟩ : ∃ u, a.eval x = u := ⟨_, rfl⟩
    rw [hu] at hrd
    subst hk
    cases hrd with
    | nil _ =>
      rw [List.length_nil] at hcs
      have hm0 : m = 0 := (Nat.mul_eq_zero.1 hcs.symm).resolve_right (by omega)
      have hk0 : k = 0 := by omega
      subst hk0
      refine ⟨.slice none 0 0, .ro _ _ (by rw [List.drop_nil]; exact .nil sz), fun w1 => ?_⟩
      have hz : (sizeOf (P.elem T)).run P w1 = .ok sz w1 := by rw [h1]; exact ht.2.run w1
      simp only [execOp, hu, hr.evv hi, Option.map, run_sliceAt_slice w1 T _ _ _ _ h2, Sem.run_bind, run_slice_l w1 T none 0 0 h2 .i64 ((0 : Nat) : Int) (by omega) (by omega), hz, Result.andThen_ok, Sem.run_pure]
      rfl
    | sl ad n' cap _ _ us hn' hsp hM hc hd =>
      have hnn : m = n' := Nat.eq_of_mul_eq_mul_right hsz (hcs.symm.trans hn')
      subst hnn
      have hmk : (m - k) * sz = m * sz - k * sz := Nat.sub_mul m k sz
      have hks : k * sz ≤ m * sz := Nat.mul_le_mul_right sz h
      have hz : ∀ w1, (sizeOf (P.elem T)).run P w1 = .ok sz w1 := fun w1 => by rw [h1]; exact ht.2.run w1
      refine ⟨.slice (if cap = k then some ad else some (ad.add (k * sz))) (m - k) (cap - k), .ro _ _ ?_, fun w1 => ?_⟩
      · by_cases hck : cap = k
        · have hkm : k = m := by omega
          rw [if_pos hck, List.drop_eq_nil_of_le (by rw [hcs, hkm]; exact Nat.le_refl _), show m - k = 0 by omega]
          exact .sl ad 0 _ sz [] us (by simp) (Nat.zero_le _) (fun k hk => absurd hk (Nat.not_lt_zero k)) (fun k d hk => by simp at hk) (fun k d hk => by simp at hk)
        · rw [if_neg hck]
          have hb' : (ad.add (k * sz)).block = ad.block := by unfold Addr.add; split <;> rfl
          refine .sl (ad.add (k * sz)) (m - k) (cap - k) sz _ (fun j => us (k * sz + j)) (by rw [List.length_drop]; omega) (by omega) (fun j hj => ?_) (fun j dt hj => ?_) (fun j dt hj => ?_)
          · rw [hb']
            rw [List.length_drop] at hj
            exact hM (k * sz + j) (by omega)
          · rw [List.getElem?_drop] at hj
            rw [add_add']
            exact hc (k * sz + j) dt hj
          · rw [List.getElem?_drop] at hj
            exact hd (k * sz + j) dt hj
      · simp only [execOp, hu, hr.evv hi, Option.map, run_sliceAt_slice w1 T _ _ _ _ h2, Sem.run_bind, run_slice_l w1 T (some ad) m cap h2 .i64 ((k : Nat) : Int) (by omega) (by omega), hz, Result.andThen_ok, Sem.run_pure, sliced]
        simp
theorem P_sliceHs {x hi : Operand} {T e : TypeId} {cs : List Dat} {sz m : Nat} {i : Int} {k : Nat} (hx : st.ev x = .ro (.sl sz cs)) (hcs : cs.length = m * sz) (hsz : 0 < sz) (hi' : st.ev hi = .val (.int .i64 i)) (hk : i = (k : Int)) (ht : SlT P T e sz) (h : k ≤ m) :
    POp P ⟨d, .slice T x none (some hi) none, ty, pos, af, g⟩ st (.ro (.sl sz (cs.take (k * sz)))) :=
  fun _ ρ w a hr => by
    have hg := hr.ev x
    rw [hx] at hg
    have hrd : Rd w (Ban ρ st.objs) (a.eval x) (.sl sz cs) := hg.ro_inv
    obtain ⟨h1, h2⟩ := slT_elem ht
    obtain ⟨u, hu⟩ : ∃ u, a.eval x = u := ⟨_, rfl⟩
    rw [hu] at hrd
    subst hk
    cases hrd with
    | nil _ =>
      rw [List.length_nil] at hcs
      have hm0 : m = 0 := (Nat.mul_eq_zero.1 hcs.symm).resolve_right (by omega)
      have hk0 : k = 0 := by omega
      subst hk0
      refine ⟨.slice none 0 0, .ro _ _ (by rw [List.take_nil]; exact .nil sz), fun w1 => ?_⟩
      have hz : (sizeOf (P.elem T)).run P w1 = .ok sz w1 := by rw [h1]; exact ht.2.run w1
      simp only [execOp, hu, hr.evv hi', Option.map, run_sliceAt_slice w1 T _ _ _ _ h2, Sem.run_bind, run_slice_h w1 T none 0 0 h2 .i64 ((0 : Nat) : Int) (by omega) (by omega), hz, Result.andThen_ok, Sem.run_pure]
      rfl
    | sl ad n' cap _ _ us hn' hsp hM hc hd =>
      have hnn : m = n' := Nat.eq_of_mul_eq_mul_right hsz (hcs.symm.trans hn')
      subst hnn
      have hmk : (m - k) * sz = m * sz - k * sz := Nat.sub_mul m k sz
      have hks : k * sz ≤ m * sz := Nat.mul_le_mul_right sz h
      have hz : ∀ w1, (sizeOf (P.elem T)).run P w1 = .ok sz w1 := fun w1 => by rw [h1]; exact ht.2.run w1
      refine ⟨.slice (if cap = 0 then some ad else some (ad.add 0)) k cap, .ro _ _ ?_, fun w1 => ?_⟩
      · by_cases hck : cap = 0
        · rw [if_pos hck, show k = 0 by omega, Nat.zero_mul, List.take_zero]
          exact .sl ad 0 _ sz [] us (by simp) (Nat.zero_le _) (fun k hk => absurd hk (Nat.not_lt_zero k)) (fun k d hk => by simp at hk) (fun k d hk => by simp at hk)
        · rw [if_neg hck]
          have hb' : (ad.add 0).block = ad.block := by unfold Addr.add; split <;> rfl
          refine .sl (ad.add 0) k cap sz _ us (by rw [List.length_take]; omega) (by omega) (fun j hj => ?_) (fun j dt hj => ?_) (fun j dt hj => ?_)
          · rw [hb']
            rw [List.length_take] at hj
            exact hM j (by omega)
          · rw [List.getElem?_take] at hj
            split at hj
            · rw [add_add', Nat.zero_add]
              exact hc j dt hj
            · cases hj
          · rw [List.getElem?_take] at hj
            split at hj
            · exact hd j dt hj
            · cases hj
      · simp only [execOp, hu, hr.evv hi', Option.map, run_sliceAt_slice w1 T _ _ _ _ h2, Sem.run_bind, run_slice_h w1 T (some ad) m cap h2 .i64 ((k : Nat) : Int) (by omega) (by omega), hz, Result.andThen_ok, Sem.run_pure, sliced]
        simp
theorem pairc_drop : ∀ (l : List (Int × Int)) (k : Nat), (pairc l).drop (k * 2) = pairc (l.drop k)
  | l, 0 => by simp
  | [], k + 1 => by simp [pairc]
  | p :: r, k + 1 => by
    rw [show (k + 1) * 2 = k * 2 + 2 by omega]
    show (pairc r).drop (k * 2) = pairc (r.drop k)
    exact pairc_drop r k
theorem pairc_take : ∀ (l : List (Int × Int)) (k : Nat), (pairc l).take (k * 2) = pairc (l.take k)
  | l, 0 => by simp [pairc]
  | [], k + 1 => by simp [pairc]
  | p :: r, k + 1 => by
    rw [show (k + 1) * 2 = k * 2 + 2 by omega]
    show _ :: _ :: (pairc r).take (k * 2) = _ :: _ :: pairc (r.take k)
    rw [pairc_take r k]
theorem P_sliceLP {x lo : Operand} {T e : TypeId} {l : List (Int × Int)} {i : Int} {k : Nat} (hx : st.ev x = pairs l) (hi : st.ev lo = .val (.int .i64 i)) (hk : i = (k : Int)) (ht : SlT P T e 2) (h : k ≤ l.length) :
    POp P ⟨d, .slice T x (some lo) none none, ty, pos, af, g⟩ st (pairs (l.drop k)) := by
  have := P_sliceLs (P := P) (d := d) (ty := ty) (pos := pos) (af := af) (g := g) (m := l.length) hx (pairc_len l) (by decide) hi hk ht h
  rw [pairc_drop] at this
  exact this
theorem P_sliceHP {x hi : Operand} {T e : TypeId} {l : List (Int × Int)} {i : Int} {k : Nat} (hx : st.ev x = pairs l) (hi' : st.ev hi = .val (.int .i64 i)) (hk : i = (k : Int)) (ht : SlT P T e 2) (h : k ≤ l.length) :
    POp P ⟨d, .slice T x none (some hi) none, ty, pos, af, g⟩ st (pairs (l.take k)) := by
  have := P_sliceHs (P := P) (d := d) (ty := ty) (pos := pos) (af := af) (g := g) (m := l.length) hx (pairc_len l) (by decide) hi' hk ht h
  rw [pairc_take] at this
  exact this
theorem F_sliceLP {x lo : Operand} {T e : TypeId} {l : List (Int × Int)} {i : Int} {k : Nat} (hx : st.ev x = pairs l) (hi : st.ev lo = .val (.int .i64 i)) (hk : i = (k : Int)) (ht : SlT P T e 2) (h : k ≤ l.length) :
    FOp P ⟨d, .slice T x (some lo) none none, ty, pos, af, g⟩ st (pairs (l.drop k)) := POp.f (P_sliceLP hx hi hk ht h)
theorem F_sliceHP {x hi : Operand} {T e : TypeId} {l : List (Int × Int)} {i : Int} {k : Nat} (hx : st.ev x = pairs l) (hi' : st.ev hi = .val (.int .i64 i)) (hk : i = (k : Int)) (ht : SlT P T e 2) (h : k ≤ l.length) :
    FOp P ⟨d, .slice T x none (some hi) none, ty, pos, af, g⟩ st (pairs (l.take k)) := POp.f (P_sliceHP hx hi' hk ht h)
end
end Go.Proofs.Ytdbngpkbamhbeaa
