import Derived.Test.YtdbngpkbamhbeaaEngZzl
import Derived.Test.YtdbngpkbamhbeaaIr
import Derived.Test.YtdbngpkbamhbeaaEngZzf
import Derived.Test.YtdbngpkbamhbeaaEngZzc
set_option linter.unusedSimpArgs false
set_option linter.unusedVariables false
set_option linter.unusedSectionVars false
namespace Go.Proofs.Ytdbngpkbamhbeaa
open Go.RowKit
variable {P : Program} {st : St} {ty : TypeId} {pos : String} {af : Array Edge} {d : Option Tmp} {g : Option (Nat × Bool)} {T : TypeId} {x : Operand}
theorem P_ixc {ix : Operand} {e : TypeId} {cs : List Dat} {i : Int} {o : Nat} (hx : st.ev x = .ro (.sl 1 cs)) (hi : st.ev ix = .val (.int .i64 i)) (hio : i = (o : Int)) (ht : SlT P T e 1) (h : o < cs.length) :
    POp P ⟨d, .indexAddr T x ix, ty, pos, af, g⟩ st (.rpt cs o) := fun _ ρ w a hr => by
  have hg := hr.ev x
  rw [hx] at hg
  have hrd : Rd w (Ban ρ st.objs) (a.eval x) (.sl 1 cs) := hg.ro_inv
  obtain ⟨u, hu⟩ : ∃ u, a.eval x = u := ⟨_, rfl⟩
  rw [hu] at hrd
  cases hrd with
  | nil _ => rw [List.length_nil] at h; omega
  | sl ad n' cap _ _ us hn' hsp hM hc hd =>
    refine ⟨.pointer (some (ad.add o)), .rpt ad _ _ us trivial hM hc hd, fun w1 => ?_⟩
    have := run_indexAt_slice (P := P) ht ad n' cap .i64 i (by omega) (by omega) w1
    rw [show i.toNat * 1 = o by omega] at this
    simp only [execOp, hu, hr.evv hi, Sem.run_bind, this, Result.andThen_ok, Sem.run_pure]
theorem R_ix_tn {ix : Operand} {e : TypeId} {n : Nat} {M : List (List Nat)} {i : Int} {o : Nat} (hM : Sq n M) (hx : st.ev x = rows (tn M)) (hi : st.ev ix = .val (.int .i64 i)) (ho : i = (o : Int)) (ht : SlT P T e 1) (h : o < n) :
    ROp P ⟨d, .indexAddr T x ix, ty, pos, af, g⟩ st (.rpt (rowc (tn M)) o) := POp.r (P_ixc hx hi ho ht (by rw [rowc_len, tn_len, hM.len]; omega))
theorem R_ld_tn {n : Nat} {M : List (List Nat)} {o : Nat} (hM : Sq n M) (hx : st.ev x = .rpt (rowc (tn M)) o) (h : o < n) (ht : ScT P T) : ROp P ⟨d, .load T x, ty, pos, af, g⟩ st (ints (nl (M.getD o []))) := by
  rw [← tn_get]; exact R_ld_rs hx (rowc_get (by rw [tn_len, hM.len]; exact h)) ht
theorem R_ix_tr {ix : Operand} {e : TypeId} {n : Nat} {M : List (List Nat)} {r : Nat} {i : Int} {o : Nat} (hM : Sq n M) (hx : st.ev x = ints (nl (M.getD r []))) (hi : st.ev ix = .val (.int .i64 i)) (ho : i = (o : Int)) (ht : SlT P T e 1) (hr : r < n) (h : o < n) :
    ROp P ⟨d, .indexAddr T x ix, ty, pos, af, g⟩ st (.rpt (intc (nl (M.getD r []))) o) := POp.r (P_ixc hx hi ho ht (by rw [intc_len, nl_len, hM.row r hr]; omega))
theorem R_ld_ta {n : Nat} {M : List (List Nat)} {r o : Nat} (hM : Sq n M) (hx : st.ev x = .rpt (intc (nl (M.getD r []))) o) (hr : r < n) (h : o < n) (ht : ScT P T) :
    ROp P ⟨d, .load T x, ty, pos, af, g⟩ st (.val (.int .i64 ((ta M r o : Nat) : Int))) := by
  have := R_ld_rv (P := P) (d := d) (ty := ty) (pos := pos) (af := af) (g := g) hx (intc_get (l := nl (M.getD r [])) (o := o) (by rw [nl_len, hM.row r hr]; exact h)) ht
  rwa [nl_get] at this
theorem R_ix_nl {ix : Operand} {e : TypeId} {l : List Nat} {i : Int} {o : Nat} (hx : st.ev x = ints (nl l)) (hi : st.ev ix = .val (.int .i64 i)) (ho : i = (o : Int)) (ht : SlT P T e 1) (h : o < l.length) :
    ROp P ⟨d, .indexAddr T x ix, ty, pos, af, g⟩ st (.rpt (intc (nl l)) o) := POp.r (P_ixc hx hi ho ht (by rw [intc_len, nl_len]; omega))
theorem R_ld_nl {l : List Nat} {o : Nat} (hx : st.ev x = .rpt (intc (nl l)) o) (h : o < l.length) (ht : ScT P T) : ROp P ⟨d, .load T x, ty, pos, af, g⟩ st (.val (.int .i64 ((l.getD o 0 : Nat) : Int))) := by
  have := R_ld_rv (P := P) (d := d) (ty := ty) (pos := pos) (af := af) (g := g) hx (intc_get (l := nl l) (o := o) (by rw [nl_len]; exact h)) ht
  rwa [nl_get] at this
end Go.Proofs.Ytdbngpkbamhbeaa
set_option linter.unusedSimpArgs false
set_option linter.unusedVariables false
set_option linter.unusedSectionVars false
namespace Go.Proofs.Ytdbngpkbamhbeaa
open Go.RowKit
section
variable {P : Program} {st : St} {d : Option Tmp} {ty : TypeId} {pos : String} {af : Array Edge} {g : Option (Nat × Bool)}
theorem P_slice3c {x hi mx : Operand} {T e : TypeId} {cs : List Dat} {i : Int} {k : Nat} (hx : st.ev x = .ro (.sl 1 cs)) (hi' : st.ev hi = .val (.int .i64 i)) (hm' : st.ev mx = .val (.int .i64 i)) (hk : i = (k : Int)) (hkl : k ≤ cs.length) (ht : SlT P T e 1) :
    POp P ⟨d, .slice T x none (some hi) (some mx), ty, pos, af, g⟩ st (.ro (.fn (capD (cs.take k)))) := fun _ ρ w a hr => by
    have hg := hr.ev x
    rw [hx] at hg
    have hrd : Rd w (Ban ρ st.objs) (a.eval x) (.sl 1 cs) := hg.ro_inv
    have htl : (cs.take k).length = k := by rw [List.length_take]; omega
    obtain ⟨h1, h2⟩ := slT_elem ht
    obtain ⟨u, hu⟩ : ∃ u, a.eval x = u := ⟨_, rfl⟩
    rw [hu] at hrd
    subst hk
    cases hrd with
    | nil _ =>
      rw [List.length_nil] at hkl
      have hk0 : k = 0 := by omega
      subst hk0
      refine ⟨.slice none 0 0, .ro _ _ (.fn _ _ ⟨by rw [List.take_nil]; exact .nil 1, rfl, none, by rw [List.take_nil]; rfl⟩), fun w1 => ?_⟩
      have hz : (sizeOf (P.elem T)).run P w1 = .ok 1 w1 := by rw [h1]; exact ht.2.run w1
      simp only [execOp, hu, hr.evv hi', hr.evv hm', Option.map, run_sliceAt_slice w1 T _ _ _ _ h2, Sem.run_bind, run_slice_hm w1 T none 0 0 h2 .i64 .i64 ((0 : Nat) : Int) ((0 : Nat) : Int) (by omega) (by omega) (by omega), hz, Result.andThen_ok, Sem.run_pure]
      rfl
    | sl ad n' cap _ _ us hn' hsp hM hc hd =>
      have hz : ∀ w1, (sizeOf (P.elem T)).run P w1 = .ok 1 w1 := fun w1 => by rw [h1]; exact ht.2.run w1
      refine ⟨.slice (if k = 0 then some ad else some (ad.add 0)) k k, .ro _ _ (.fn _ _ ⟨?_, rfl, _, by rw [htl]⟩), fun w1 => ?_⟩
      · by_cases hck : k = 0
        · rw [if_pos hck]
          subst hck
          rw [List.take_zero]
          exact .sl ad 0 0 1 [] us rfl (Nat.le_refl _) (fun j hj => absurd hj (Nat.not_lt_zero j)) (fun j d hj => by simp at hj) (fun j d hj => by simp at hj)
        · rw [if_neg hck]
          have hb' : (ad.add 0).block = ad.block := by unfold Addr.add; split <;> rfl
          refine .sl (ad.add 0) k k 1 _ us (by rw [htl, Nat.mul_one]) (Nat.le_refl _) (fun j hj => by rw [hb']; exact hM j (by omega)) (fun j dt hj => ?_) (fun j dt hj => ?_)
          · rw [List.getElem?_take] at hj
            split at hj
            · rw [add_add', Nat.zero_add]; exact hc j dt hj
            · cases hj
          · rw [List.getElem?_take] at hj
            split at hj
            · exact hd j dt hj
            · cases hj
      · simp only [execOp, hu, hr.evv hi', hr.evv hm', Option.map, run_sliceAt_slice w1 T _ _ _ _ h2, Sem.run_bind, run_slice_hm w1 T (some ad) n' cap h2 .i64 .i64 ((k : Nat) : Int) ((k : Nat) : Int) (by omega) (by omega) (by omega), hz, Result.andThen_ok, Sem.run_pure, sliced]
        simp
theorem rowc_len1 (l : List (List Int)) : (rowc l).length = l.length := by rw [rowc_len, Nat.mul_one]
theorem rowc_tk (l : List (List Int)) (k : Nat) : (rowc l).take k = rowc (l.take k) := by simp [rowc, List.map_take]
theorem rowc_dp (l : List (List Int)) (k : Nat) : (rowc l).drop k = rowc (l.drop k) := by simp [rowc, List.map_drop]
theorem R_slice3r {x hi mx : Operand} {T e : TypeId} {l : List (List Int)} {i : Int} {k : Nat} (hx : st.ev x = rows l) (hi' : st.ev hi = .val (.int .i64 i)) (hm' : st.ev mx = .val (.int .i64 i)) (hk : i = (k : Int)) (hkl : k ≤ l.length) (ht : SlT P T e 1) :
    ROp P ⟨d, .slice T x none (some hi) (some mx), ty, pos, af, g⟩ st (.ro (.fn (capD (rowc (l.take k))))) := by
  rw [← rowc_tk]; exact POp.r (P_slice3c hx hi' hm' hk (by rw [rowc_len1]; exact hkl) ht)
theorem R_sliceLr {x lo : Operand} {T e : TypeId} {l : List (List Int)} {i : Int} {k : Nat} (hx : st.ev x = rows l) (hi : st.ev lo = .val (.int .i64 i)) (hk : i = (k : Int)) (ht : SlT P T e 1) (h : k ≤ l.length) :
    ROp P ⟨d, .slice T x (some lo) none none, ty, pos, af, g⟩ st (rows (l.drop k)) := by
  have := P_sliceLs (P := P) (d := d) (ty := ty) (pos := pos) (af := af) (g := g) (m := l.length) hx (rowc_len l) (by decide) hi hk ht h
  rw [Nat.mul_one, rowc_dp] at this
  exact POp.r this
theorem R_ix_rw {x ix : Operand} {T e : TypeId} {l : List (List Int)} {i : Int} {o : Nat} (hx : st.ev x = rows l) (hi : st.ev ix = .val (.int .i64 i)) (ho : i = (o : Int)) (ht : SlT P T e 1) (h : o < l.length) :
    ROp P ⟨d, .indexAddr T x ix, ty, pos, af, g⟩ st (.rpt (rowc l) o) := POp.r (P_ixc hx hi ho ht (by rw [rowc_len1]; exact h))
theorem R_ld_rw {x : Operand} {T : TypeId} {l : List (List Int)} {o : Nat} (hx : st.ev x = .rpt (rowc l) o) (h : o < l.length) (ht : ScT P T) : ROp P ⟨d, .load T x, ty, pos, af, g⟩ st (ints (l.getD o [])) := R_ld_rs hx (rowc_get h) ht
end
section
variable {P : Program} {k : Nat} {cx : Cx k} {ops : Array Oper} {Q : Exit → St → Prop} {rest : List Oper} {ty : TypeId} {pos : String} {af : Array Edge} {n : Nat} {vars : List (Nat × AV)} {objs objs' : List AO} {d m : Nat}
theorem w_apcapR [Zs] {T e : TypeId} {x y : Operand} {id2 : Nat} {l r : List (List Int)} {e2 : TypeId} (hx : (⟨n, vars, objs⟩ : St).ev x = .ro (.fn (capD (rowc l)))) (hy : (⟨n, vars, objs⟩ : St).ev y = .own id2) (hob2 : objs[id2]? = some (.row e2 1 (rowc r))) (h0 : 0 < r.length)
    (ht : SlT P T e 1) (hmk : MkT P e (.slice none 0 0) 1 24) (hbig : l.length + r.length ≤ 1000000000) (ho : objs ++ [.row e 1 (rowc (l ++ r))] = objs') (hm : objs.length = m) (hd : Nat.blt d n = true)
    (hk : aL P cx ops Q rest ⟨n, (d, .own m) :: vars, objs'⟩) : aL P cx ops Q (⟨some d, .call ⟨.builtin .append, #[x, y], #[T, T]⟩, ty, pos, af, none⟩ :: rest) ⟨n, vars, objs⟩ := by
  subst ho; subst hm
  have l1 := rowc_len1 l
  have l2 := rowc_len1 r
  refine l_apcap (by' := 24) rfl rfl hx (.inr (.inl ⟨id2, e2, hy, hob2⟩)) ht hmk rfl (by omega) (rowc_one r) (by decide) (by omega) hd ?_
  rw [rowc_app]
  exact hk
end
def exitA (id : Nat) (K : St → Prop) (Q : Exit → St → Prop) : Exit → St → Prop
  | .exit id', st => bif Nat.beq id' id then K st else Q (.exit id') st
  | e, st => Q e st
theorem exA {id : Nat} {K : St → Prop} {Q : Exit → St → Prop} {st : St} (h : K st) : exitA id K Q (.exit id) st := by
  have e : Nat.beq id id = true := Nat.beq_refl id
  show (bif Nat.beq id id then K st else Q (.exit id) st)
  rw [e]; exact h
theorem w_cutX {P : Program} {k : Nat} {cx : Cx k} [Zs] {x : Code} {Q : Exit → St → Prop} {n : Nat} {vars : List (Nat × AV)} {objs : List AO} {X : Type} (id : Nat) (keep : List Nat) {vars0 : List (Nat × AV)} (hv : keepv keep vars = vars0) (mv : X → List (Nat × AV)) (ob : X → List AO) (I : X → Prop)
    (h1 : aC P cx x (exitA id (fun st => ∃ z σ, I z ∧ st.le ⟨n, mv z ++ vars0, ob z⟩ σ ∧ fixB k σ = true) Q) ⟨n, vars, objs⟩) (h2 : ∀ z, I z → Q (.exit id) ⟨n, mv z ++ vars0, ob z⟩) : aC P cx x Q ⟨n, vars, objs⟩ := by
  have _ := hv
  intro a w hr
  refine wp_mono (h1 a w hr) ?_
  rintro e a' w' ⟨st', q, r⟩
  cases e with
  | exit id' =>
    replace q : (bif Nat.beq id' id then ∃ z σ, I z ∧ st'.le ⟨n, mv z ++ vars0, ob z⟩ σ ∧ fixB k σ = true else Q (.exit id') st') := q
    cases hb : Nat.beq id' id
    · rw [hb] at q; exact ⟨st', q, r⟩
    · rw [hb] at q
      obtain rfl := Nat.eq_of_beq_eq_true hb
      obtain ⟨z, σ, hi, hle, hσ⟩ := q
      exact ⟨_, h2 z hi, r.le hle hσ⟩
  | normal => exact ⟨st', q, r⟩
  | goto l => exact ⟨st', q, r⟩
  | ret => exact ⟨st', q, r⟩
  | panic ch => exact ⟨st', q, r⟩
  | outgrown => exact ⟨st', q, r⟩
end Go.Proofs.Ytdbngpkbamhbeaa
