import Derived.Test.YtfjpgficpdbelaaEngZh
import Derived.Test.YtfjpgficpdbelaaEngR
set_option linter.unusedSimpArgs false
set_option linter.unusedVariables false
set_option linter.unusedSectionVars false
namespace Go.Proofs.Ytfjpgficpdbelaa
open Go.ChangeShapes Go.WideShapes Go.RowKit Go.Deep
def trc : List (Int × Int × Int) → List Dat
  | [] => []
  | e :: r => .val (.int .i64 e.1) :: .val (.int .i64 e.2.1) :: .val (.int .i64 e.2.2) :: trc r
abbrev trs (l : List (Int × Int × Int)) : AV := .ro (.sl 3 (trc l))
/-- One of them. -/
abbrev trA (e : Int × Int × Int) : AV := .agg [.val (.int .i64 e.1), .val (.int .i64 e.2.1), .val (.int .i64 e.2.2)]
theorem trc_len : ∀ (l : List (Int × Int × Int)), (trc l).length = l.length * 3
  | [] => rfl
  | p :: r => by simp [trc, trc_len r]; omega
theorem trc_get : ∀ {l : List (Int × Int × Int)} {o : Nat}, o < l.length → (trc l)[o * 3]? = some (.val (.int .i64 (l.getD o (0, 0, 0)).1)) ∧ (trc l)[o * 3 + 1]? = some (.val (.int .i64 (l.getD o (0, 0, 0)).2.1)) ∧ (trc l)[o * 3 + 2]? = some (.val (.int .i64 (l.getD o (0, 0, 0)).2.2))
  | [], o, h => by simp at h
  | p :: r, 0, _ => ⟨rfl, rfl, rfl⟩
  | p :: r, o + 1, h => by
    have ih := trc_get (l := r) (o := o) (by simpa using h)
    rw [show (o + 1) * 3 = o * 3 + 1 + 1 + 1 by omega]
    simpa [trc] using ih
theorem trc_take : ∀ (l : List (Int × Int × Int)) (k : Nat), (trc l).take (k * 3) = trc (l.take k)
  | [], k => by simp [trc]
  | p :: r, 0 => by simp [trc]
  | p :: r, k + 1 => by
    rw [show (k + 1) * 3 = k * 3 + 1 + 1 + 1 by omega]
    simp [trc, trc_take r k]
section
variable {P : Program} {st : St} {d : Option Tmp} {ty : TypeId} {pos : String} {af : Array Edge} {g : Option (Nat × Bool)}
theorem Q_ix_trs {x ix : Operand} {T e : TypeId} {l : List (Int × Int × Int)} {i : Int} {o : Nat} (hx : st.ev x = .ro (.sl 3 (trc l))) (hi : st.ev ix = .val (.int .i64 i)) (ho : i = (o : Int)) (ht : SlT P T e 3) (h : o < l.length) :
    QOp P ⟨d, .indexAddr T x ix, ty, pos, af, g⟩ st (.rpt (trc l) (o * 3)) := by
  have := Q_index_ro (P := P) (d := d) (ty := ty) (pos := pos) (af := af) (g := g) (x := x) (ix := ix) hx hi ht (trc_len l) (by decide) ⟨by omega, by omega⟩
  rw [show i.toNat * 3 = o * 3 by omega] at this
  exact this
theorem Q_ld_ev1 {x : Operand} {T : TypeId} {l : List (Int × Int × Int)} {o : Nat} (hx : st.ev x = .rpt (trc l) (o * 3)) (h : o < l.length) (ht : ScT P T) : QOp P ⟨d, .load T x, ty, pos, af, g⟩ st (.val (.int .i64 (l.getD o (0, 0, 0)).1)) :=
  Q_load_rpt hx (trc_get h).1 ht
theorem Q_ld_ev3 {x : Operand} {T : TypeId} {l : List (Int × Int × Int)} {o : Nat} (hx : st.ev x = .rpt (trc l) (o * 3 + 2)) (h : o < l.length) (ht : ScT P T) : QOp P ⟨d, .load T x, ty, pos, af, g⟩ st (.val (.int .i64 (l.getD o (0, 0, 0)).2.2)) :=
  Q_load_rpt hx (trc_get h).2.2 ht
theorem Q_ld_ev {x : Operand} {T : TypeId} {l : List (Int × Int × Int)} {o : Nat} (hx : st.ev x = .rpt (trc l) (o * 3)) (h : o < l.length) (ht : AgT P T 3) :
    QOp P ⟨d, .load T x, ty, pos, af, g⟩ st (trA (l.getD o (0, 0, 0))) :=
  Q_load_rpt_agg (ds := [.val (.int .i64 (l.getD o (0, 0, 0)).1), .val (.int .i64 (l.getD o (0, 0, 0)).2.1), .val (.int .i64 (l.getD o (0, 0, 0)).2.2)]) hx (fun j dt hj => by
    match j, hj with
    | 0, hj => simp only [List.getElem?_cons_zero, Option.some.injEq] at hj; rw [← hj]; exact (trc_get h).1
    | 1, hj => simp only [List.getElem?_cons_succ, List.getElem?_cons_zero, Option.some.injEq] at hj; rw [← hj]; exact (trc_get h).2.1
    | 2, hj => simp only [List.getElem?_cons_succ, List.getElem?_cons_zero, Option.some.injEq] at hj; rw [← hj]; exact (trc_get h).2.2
    | j + 3, hj => simp at hj) rfl ht
theorem Q_len_trs {x : Operand} {T e : TypeId} {l : List (Int × Int × Int)} (hx : st.ev x = .ro (.sl 3 (trc l))) (ht : SlT P T e 3) : QOp P ⟨d, .call ⟨.builtin .len, #[x], #[T]⟩, ty, pos, af, g⟩ st (.val (.int .i64 (l.length : Int))) :=
  Q_len_ro rfl hx rfl ht (trc_len l) (by decide)
/-- s[:k] of them. -/
theorem Q_sliceHE {x hi : Operand} {T e : TypeId} {l : List (Int × Int × Int)} {i : Int} {k : Nat} (hx : st.ev x = .ro (.sl 3 (trc l))) (hi' : st.ev hi = .val (.int .i64 i)) (hk : i = (k : Int)) (ht : SlT P T e 3) (h : k ≤ l.length) :
    QOp P ⟨d, .slice T x none (some hi) none, ty, pos, af, g⟩ st (trs (l.take k)) :=
  .run fun ρ w a hr => by
    have hg := hr.ev x
    rw [hx] at hg
    have hrd : Rd w (Ban ρ st.objs) (a.eval x) (.sl 3 (trc l)) := hg.ro_inv
    have hn : (trc l).length = l.length * 3 := trc_len l
    obtain ⟨h1, h2⟩ := slT_elem ht
    unfold trs
    rw [← trc_take]
    generalize trc l = cs at *
    obtain ⟨u, hu⟩ : ∃ u, a.eval x = u := ⟨_, rfl⟩
    rw [hu] at hrd
    subst hk
    cases hrd with
    | nil _ =>
      rw [List.length_nil] at hn
      have hk0 : k = 0 := by omega
      subst hk0
      refine ⟨.slice none 0 0, .ro _ _ (by rw [List.take_nil]; exact .nil 3), fun w1 _ => ?_⟩
      have hz : (sizeOf (P.elem T)).run P w1 = .ok 3 w1 := by rw [h1]; exact ht.2.run w1
      simp only [execOp, hu, hr.evv hi', Option.map, run_sliceAt_slice w1 T _ _ _ _ h2, Sem.run_bind, run_slice_h w1 T none 0 0 h2 .i64 ((0 : Nat) : Int) (by omega) (by omega), hz, Result.andThen_ok, Sem.run_pure]
      rfl
    | sl ad n' cap _ _ us hn' hsp hM hc hd =>
      have hnn : l.length = n' := by omega
      have hz : ∀ w1, (sizeOf (P.elem T)).run P w1 = .ok 3 w1 := fun w1 => by rw [h1]; exact ht.2.run w1
      refine ⟨.slice (if cap = 0 then some ad else some (ad.add 0)) k cap, .ro _ _ ?_, fun w1 _ => ?_⟩
      · by_cases hck : cap = 0
        · rw [if_pos hck, show k = 0 by omega, Nat.zero_mul, List.take_zero]
          exact .sl ad 0 _ 3 [] us rfl (Nat.zero_le _) (fun k hk => absurd hk (Nat.not_lt_zero k)) (fun k d hk => by simp at hk) (fun k d hk => by simp at hk)
        · rw [if_neg hck]
          have hb' : (ad.add 0).block = ad.block := by unfold Addr.add; split <;> rfl
          refine .sl (ad.add 0) k cap 3 _ us (by rw [List.length_take]; omega) (by omega) (fun j hj => ?_) (fun j dt hj => ?_) (fun j dt hj => ?_)
          · rw [hb']
            rw [List.length_take] at hj
            exact hM j (by omega)
          · rw [List.getElem?_take] at hj
            split at hj
            · rw [add_add', Nat.zero_add]
              exact hc j dt hj
            · cases hj
          · rw [List.getElem?_take] at hj
            split at hj
            · exact hd j dt hj
            · cases hj
      · simp only [execOp, hu, hr.evv hi', Option.map, run_sliceAt_slice w1 T _ _ _ _ h2, Sem.run_bind, run_slice_h w1 T (some ad) n' cap h2 .i64 ((k : Nat) : Int) (by omega) (by omega), hz, Result.andThen_ok, Sem.run_pure, sliced]
        simp
end
section
variable {H : Type} {enc : TypeId × Value → H} {P : Program} {w : World} {base : Nat} {spare : Nat → Bool} {held : Bool} {fuel : Nat} {cs : List Value} {x : DataW H × List MemPlace} {t e : TypeId}
theorem flatten_trc (l : List (Int × Int × Int)) : (l.map fun p => [Dat.val (.int .i64 p.1), Dat.val (.int .i64 p.2.1), Dat.val (.int .i64 p.2.2)]).flatten = trc l := by
  induction l with
  | nil => rfl
  | cons a r ih => rw [List.map_cons, List.flatten_cons, ih]; rfl
theorem rd_trs {f0 f1 f2 : Field} (ht : P.underlying t = some (.slice e)) (he : P.underlying e = some (.struct #[f0, f1, f2])) (o0 : f0.offset = 0) (o1 : f1.offset = 1) (o2 : f2.offset = 2) (h0 : P.underlying f0.type = some (.int .i64)) (h1 : P.underlying f1.type = some (.int .i64)) (h2 : P.underlying f2.type = some (.int .i64))
    (c0 : P.cellsOf f0.type = 1) (c1 : P.cellsOf f1.type = 1) (c2 : P.cellsOf f2.type = 1) (hc : P.cellsOf e = 3) (h : DataW.trod enc P w base spare held fuel t cs = some x) :
    ∃ v l, cs = [v] ∧ Rd w noM v (.sl 3 (trc l)) ∧ (∀ x ∈ l, I64 x.1 ∧ I64 x.2.1 ∧ I64 x.2.2) ∧ l.length ≤ big := by
  obtain ⟨v, dss, h1', h2', h3', h4'⟩ := rd_slice ht hc (fun ds => ∃ p : Int × Int × Int, ds = [Dat.val (.int .i64 p.1), Dat.val (.int .i64 p.2.1), Dat.val (.int .i64 p.2.2)] ∧ (I64 p.1 ∧ I64 p.2.1 ∧ I64 p.2.2)) (fun n cs' x hx => by
    obtain ⟨xs, m, _, _, h5, hlen, hg⟩ := DataW.trod_struct he hx
    rw [hc] at h5
    match cs', h5, xs, hlen with
    | [v0, v1, v2], _, [x0, x1, x2], _ =>
      have g0 := hg 0 f0 rfl
      have g1 := hg 1 f1 rfl
      have g2 := hg 2 f2 rfl
      simp [o0, o1, o2, c0, c1, c2] at g0 g1 g2
      obtain ⟨a0, e0, b0⟩ := rd_int h0 g0
      obtain ⟨a1, e1, b1⟩ := rd_int h1 g1
      obtain ⟨a2, e2, b2⟩ := rd_int h2 g2
      simp at e0 e1 e2
      subst e0; subst e1; subst e2
      refine ⟨[.val (.int .i64 a0), .val (.int .i64 a1), .val (.int .i64 a2)], rfl, fun j v d hv hd => ?_, (a0, a1, a2), rfl, b0, b1, b2⟩
      match j with
      | 0 => simp at hv hd; subst hv; subst hd; exact .val _
      | 1 => simp at hv hd; subst hv; subst hd; exact .val _
      | 2 => simp at hv hd; subst hv; subst hd; exact .val _
      | j + 3 => simp at hv) h
  obtain ⟨l, rfl, hl, hn⟩ := gather h3'
  rw [flatten_trc] at h2'
  exact ⟨v, l, h1', h2', hl, by omega⟩
end
section
variable {H : Type} {enc : TypeId × Value → H} {P : Program} {w : World} {base : Nat} {spare : Nat → Bool} {held : Bool} {t e : TypeId} {v : Value} {d : DataW H} {ps : List MemPlace} {r : Reach} {b0 : Nat}
theorem arg_trs {f0 f1 f2 : Field} (ht : P.underlying t = some (.slice e)) (he : P.underlying e = some (.struct #[f0, f1, f2])) (o0 : f0.offset = 0) (o1 : f1.offset = 1) (o2 : f2.offset = 2) (h0 : P.underlying f0.type = some (.int .i64)) (h1 : P.underlying f1.type = some (.int .i64)) (h2 : P.underlying f2.type = some (.int .i64))
    (c0 : P.cellsOf f0.type = 1) (c1 : P.cellsOf f1.type = 1) (c2 : P.cellsOf f2.type = 1) (hc : P.cellsOf e = 3) (hval : Value.okWide P w r b0 t v) (hd : DataW.Trod enc P w base spare held t v d ps) :
    ∃ l, Rd w noM v (.sl 3 (trc l)) ∧ (∀ x ∈ l, I64 x.1 ∧ I64 x.2.1 ∧ I64 x.2.2) ∧ l.length ≤ big := by
  obtain ⟨fuel, hf⟩ := hd
  obtain ⟨u, l, h1, h2, h3, h4⟩ := rd_trs ht he o0 o1 o2 h0 h1 h2 c0 c1 c2 hc hf
  rw [ok_slice ht hval] at h1
  simp at h1
  exact ⟨l, h1 ▸ h2, h3, h4⟩
theorem gm_trs {l : List (Int × Int × Int)} (h : Rd w noM v (.sl 3 (trc l))) : Gm [] w (Ban [] []) (trs l) v := .ro _ _ (rd_own h)
end
end Go.Proofs.Ytfjpgficpdbelaa
