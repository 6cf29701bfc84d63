/- A box that is only read from now on, wherever its address stands. -/
import Derived.Test.YthchhaaplimafaaEngY
set_option linter.unusedSimpArgs false
set_option linter.unusedVariables false
namespace Go.Proofs.Ythchhaaplimafaa
open Go.RowKit

/-! A box is only read from now on: what stands for it, wherever it stands. -/
mutual
def AV.fb (id : Nat) (d : List Dat) : AV → AV
  | .own i => .own i
  | .agg l => .agg (AV.fbl id d l)
  | .tup l => .tup (AV.fbl id d l)
  | .clo f l => .clo f (AV.fbl id d l)
  | .val v => .val v
  | .ro d' => .ro d'
  | .ptr i o => bif Nat.beq i id then .rpt d o else .ptr i o
  | .ept i o => .ept i o
  | .rpt cs o => .rpt cs o
  | .any => .any
def AV.fbl (id : Nat) (d : List Dat) : List AV → List AV
  | [] => []
  | a :: l => a.fb id d :: AV.fbl id d l
end
theorem fbl_get (id : Nat) (d : List Dat) : ∀ (l : List AV) (i : Nat), (AV.fbl id d l)[i]? = (l[i]?).map (AV.fb id d)
  | [], i => by simp [AV.fbl]
  | a :: l, 0 => by simp [AV.fbl]
  | a :: l, i + 1 => by simp [AV.fbl, fbl_get id d l i]
theorem fbl_len (id : Nat) (d : List Dat) : ∀ (l : List AV), (AV.fbl id d l).length = l.length
  | [] => rfl
  | a :: l => by simp [AV.fbl, fbl_len id d l]
def AO.fb (id : Nat) (d : List Dat) : AO → AO
  | .box l => .box (AV.fbl id d l)
  | .row e sz cs => .row e sz cs
  | .mat e e' m => .mat e e' m
  | .gone => .gone
def fbo (id : Nat) (d : List Dat) : List AO → List AO
  | [] => []
  | o :: l => o.fb id d :: fbo id d l
theorem fbo_get (id : Nat) (d : List Dat) : ∀ (l : List AO) (i : Nat), (fbo id d l)[i]? = (l[i]?).map (AO.fb id d)
  | [], i => by simp [fbo]
  | a :: l, 0 => by simp [fbo]
  | a :: l, i + 1 => by simp [fbo, fbo_get id d l i]
theorem fbo_len (id : Nat) (d : List Dat) : ∀ (l : List AO), (fbo id d l).length = l.length
  | [] => rfl
  | a :: l => by simp [fbo, fbo_len id d l]
theorem fb_gm {ρ : Ids} {w : World} {M M' : Nat → Prop} {id : Nat} {d : List Dat} (hM : ∀ b, M' b → M b) (hid : ∀ b l, ρ[id]? = some (.pointer (some ⟨b, 0, none⟩) :: l) → ∃ us : Nat → Value, (∀ k, k < d.length → ¬ M' b) ∧ (∀ (k : Nat) x, d[k]? = some x → w.cell? ⟨b, k, none⟩ = some (us k)) ∧ ∀ (k : Nat) x, d[k]? = some x → Rd w M' (us k) x) {av : AV} {v : Value} (h : Gm ρ w M av v) : Gm ρ w M' (av.fb id d) v := by
  have rd : ∀ {v d}, Rd w M v d → Rd w M' v d := fun h => h.mono (Same.refl M w) (fun b _ hb => hM b hb)
  have lst : ∀ {l : List AV} {vs : Array Value}, (∀ (i : Nat) (av : AV) (v : Value), l[i]? = some av → vs[i]? = some v → Gm ρ w M' (av.fb id d) v) →
      ∀ (i : Nat) (av : AV) (v : Value), (AV.fbl id d l)[i]? = some av → vs[i]? = some v → Gm ρ w M' av v := by
    intro l vs h i av v hi hv
    rw [fbl_get] at hi
    obtain ⟨av0, h1, rfl⟩ := Option.map_eq_some_iff.1 hi
    exact h i av0 v h1 hv
  induction h with
  | val v => exact .val v
  | ro d v hr => exact .ro d v (rd hr)
  | own i v l h h1 => exact .own i v l h h1
  | ptr i off b l h =>
    show Gm ρ w M' (bif Nat.beq i id then .rpt d off else .ptr i off) _
    cases hbq : Nat.beq i id with
    | false => exact .ptr i off b l h
    | true =>
      obtain rfl := Nat.eq_of_beq_eq_true hbq
      obtain ⟨us, h1, h2, h3⟩ := hid b l h
      have e : ∀ k, (⟨b, 0, none⟩ : Addr).add k = ⟨b, k, none⟩ := fun k => by rw [spot_add rfl, Nat.zero_add]
      have := Gm.rpt (ρ := ρ) (w := w) (M := M') ⟨b, 0, none⟩ d off us trivial (fun k hk => h1 k hk) (fun k x hx => by rw [e]; exact h2 k x hx) h3
      rwa [e] at this
  | ept i k b n cap l h => exact .ept _ k b n cap l h
  | rpt a cs off us hsp h2 h3 h4 => exact .rpt a cs off us hsp (fun k hk hm => h2 k hk (hM _ hm)) h3 (fun k d hd => rd (h4 k d hd))
  | agg l vs hl _ ih => exact .agg _ vs (by rw [fbl_len]; exact hl) (lst ih)
  | tup l vs hl _ ih => exact .tup _ vs (by rw [fbl_len]; exact hl) (lst ih)
  | clo f l vs hl _ ih => exact .clo f _ vs (by rw [fbl_len]; exact hl) (lst ih)
  | any v => exact .any v
def fbv (id : Nat) (d : List Dat) : List (Nat × AV) → List (Nat × AV)
  | [] => []
  | (t, av) :: r => (t, av.fb id d) :: fbv id d r
theorem getv_fbv (id : Nat) (d : List Dat) : ∀ (l : List (Nat × AV)) (t : Nat), getv (fbv id d l) t = (getv l t).fb id d
  | [], _ => rfl
  | (t', av) :: r, t => by
    rw [fbv, getv_cons, getv_cons, getv_fbv id d r t]
    split <;> rfl

section
variable {P : Program} {k : Nat} {cx : Cx k} {ops : Array Oper} {Q : Exit → St → Prop} {st : St} {rest : List Oper} {ty : TypeId} {pos : String} {af : Array Edge}
/-- A box whose cells hang on nothing of the call's own, wherever its address stands, is only read from now on. -/
theorem rel_freezeB [Zs] {a : Act} {w : World} (id : Nat) {ds : List Dat} (ho : st.objs[id]? = some (.box (ds.map ofD))) (hr : Rel cx st a w) :
    Rel cx ⟨st.n, fbv id ds st.vars, fbo id ds (st.objs.set id .gone)⟩ a w := by
  obtain ⟨ρ, hb, hf, h0⟩ := hr.base
  obtain ⟨hg, hM⟩ := hb.good.drop id
  have hid := (List.getElem?_eq_some_iff.1 ho).1
  have hfoot : ∀ {i b}, foot ρ (fbo id ds (st.objs.set id .gone)) i b → foot ρ (st.objs.set id .gone) i b := by
    rintro i b ⟨o, l, h1, h2, h3, h4⟩
    rw [fbo_get] at h1
    obtain ⟨o0, h5, rfl⟩ := Option.map_eq_some_iff.1 h1
    refine ⟨o0, l, h5, ?_, h3, h4⟩
    cases o0 <;> first | rfl | cases h2
  have hban : ∀ b, Ban ρ (fbo id ds (st.objs.set id .gone)) b → Ban ρ st.objs b := by
    rintro b (⟨i, h⟩ | h)
    · exact .inl (hM b ⟨i, hfoot h⟩)
    · exact .inr h
  have hrd : ∀ b l, ρ[id]? = some (.pointer (some ⟨b, 0, none⟩) :: l) → ∃ us : Nat → Value, (∀ k, k < ds.length → ¬ Ban ρ (fbo id ds (st.objs.set id .gone)) b) ∧ (∀ (k : Nat) x, ds[k]? = some x → w.cell? ⟨b, k, none⟩ = some (us k)) ∧ ∀ (k : Nat) x, ds[k]? = some x → Rd w (Ban ρ (fbo id ds (st.objs.set id .gone))) (us k) x := by
    intro b l hl
    obtain ⟨b', arr, T, h1, h2, h3, h4⟩ := hb.good.sat id _ ho
    rw [h1] at hl
    simp only [Option.some.injEq, List.cons.injEq, Value.pointer.injEq, Addr.mk.injEq] at hl
    obtain ⟨⟨rfl, _⟩, rfl⟩ := hl
    have hft0 : foot ρ st.objs id b' := ⟨_, _, ho, rfl, h1, .pointer (some ⟨b', 0, none⟩), by simp, rfl⟩
    have key : ∀ (k : Nat) (x : Dat), ds[k]? = some x → ∃ v, arr[k]? = some v ∧ Rd w (Ban ρ (fbo id ds (st.objs.set id .gone))) v x := by
      intro k x hk
      obtain ⟨v, hv, hgm⟩ := h4 k (ofD x) (by simp [hk])
      exact ⟨v, hv, (gm_ofD_inv hgm).mono (Same.refl (Ban ρ st.objs) w) (fun b _ h => hban b h)⟩
    refine ⟨fun k => arr.getD k undef, fun k _ hown => ?_, fun k x hk => ?_, fun k x hk => ?_⟩
    · rcases hown with ⟨id', hft⟩ | hz
      · rcases foot_set hid (hfoot hft) with ⟨_, hlive, _⟩ | ⟨hne, hft'⟩
        · cases hlive
        · exact hne (hb.good.dis _ _ _ hft' hft0)
      · exact hb.good.zf _ _ hft0 hz
    · obtain ⟨v, hv, _⟩ := key k x hk
      rw [cell_of_row w b' k arr T (0, 0) h2, hv]
      simp [hv]
    · obtain ⟨v, hv, hr⟩ := key k x hk
      have : arr.getD k undef = v := by simp [hv]
      show Rd w _ (arr.getD k undef) x
      rw [this]; exact hr
  have hgm : ∀ {av v}, Gm ρ w (Ban ρ st.objs) av v → Gm ρ w (Ban ρ (fbo id ds (st.objs.set id .gone))) (av.fb id ds) v := fun h => fb_gm hban hrd h
  refine Rel.step hr hf h0 (Same.refl _ _) (fun _ _ h => h) (fun b _ ⟨i, h⟩ => hM b ⟨i, hfoot h⟩) (ρ' := ρ) ⟨fun t' => ?_, hb.size, hb.defers, ?_⟩
  · show Gm ρ w _ (getv (fbv id ds st.vars) t') _
    rw [getv_fbv]
    exact hgm (hb.frame t')
  · refine ⟨by rw [fbo_len]; exact hg.len, fun i o hi => ?_, fun i j b h1 h2 => hg.dis i j b (hfoot h1) (hfoot h2), fun i b h => hg.zf i b (hfoot h), hg.zl⟩
    show SatO ρ w (Ban ρ (fbo id ds (st.objs.set id .gone))) i o
    change (fbo id ds (st.objs.set id .gone))[i]? = some o at hi
    rw [fbo_get] at hi
    obtain ⟨o0, h5, rfl⟩ := Option.map_eq_some_iff.1 hi
    by_cases he : i = id
    · subst he
      rw [List.getElem?_set_self hid] at h5
      obtain rfl := Option.some.inj h5
      trivial
    · rw [List.getElem?_set_ne (Ne.symm he)] at h5
      have hs := hb.good.sat i o0 h5
      cases o0 with
      | gone => trivial
      | mat e e' m => exact hs
      | row e sz cs =>
        obtain ⟨v, n, us, a1, a2, a3, a4⟩ := hs
        refine ⟨v, n, us, a1, a2, a3, fun i dt hi => ?_⟩
        obtain ⟨u, hu, hr⟩ := a4 i dt hi
        exact ⟨u, hu, hr.mono (Same.refl _ _) (fun b _ h => hban b h)⟩
      | box l =>
        obtain ⟨b, arr, T, a1, a2, a3, a4⟩ := hs
        refine ⟨b, arr, T, a1, a2, by rw [fbl_len]; exact a3, fun i av hi => ?_⟩
        rw [fbl_get] at hi
        obtain ⟨av0, h11, rfl⟩ := Option.map_eq_some_iff.1 hi
        obtain ⟨v, hv, hgv⟩ := a4 i av0 h11
        exact ⟨v, hv, hgm hgv⟩
end

section
variable {P : Program} {k : Nat} {cx : Cx k} {ops : Array Oper} {Q : Exit → St → Prop} {rest : List Oper} {ty : TypeId} {pos : String} {af : Array Edge} {n : Nat} {vars vars' : List (Nat × AV)} {objs objs' : List AO} {d : Nat}
theorem w_freezeB [Zs] (id : Nat) {cells : List AV} (ds : List Dat) (ho : objs[id]? = some (.box cells)) (hd : ds.map ofD = cells) (hs : fbo id ds (objs.set id .gone) = objs') (hv : fbv id ds vars = vars') (hk : aL P cx ops Q rest ⟨n, vars', objs'⟩) : aL P cx ops Q rest ⟨n, vars, objs⟩ := by
  subst hs; subst hv; subst hd
  exact fun a w hr => hk a w (rel_freezeB id ho hr)
theorem w_freezeBC [Zs] (id : Nat) {c : Code} {cells : List AV} (ds : List Dat) (ho : objs[id]? = some (.box cells)) (hd : ds.map ofD = cells) (hs : fbo id ds (objs.set id .gone) = objs') (hv : fbv id ds vars = vars') (hk : aC P cx c Q ⟨n, vars', objs'⟩) : aC P cx c Q ⟨n, vars, objs⟩ := by
  subst hs; subst hv; subst hd
  exact fun a w hr => hk a w (rel_freezeB id ho hr)
end
theorem fb_ints (id : Nat) (d : List Dat) (l : List Int) : (ints l).fb id d = ints l := rfl
theorem fb_rows (id : Nat) (d : List Dat) (l : List (List Int)) : (rows l).fb id d = rows l := rfl
theorem fb_pairs (id : Nat) (d : List Dat) (l : List (Int × Int)) : (pairs l).fb id d = pairs l := rfl
theorem fb_ords (id : Nat) (d : List Dat) (l : List (Int × List Int)) : (ords l).fb id d = ords l := rfl
theorem fb_val (id : Nat) (d : List Dat) (v : Value) : (AV.val v).fb id d = .val v := rfl
theorem fb_ro (id : Nat) (d : List Dat) (d' : Dat) : (AV.ro d').fb id d = .ro d' := rfl
theorem fb_rpt (id : Nat) (d : List Dat) (cs : List Dat) (o : Nat) : (AV.rpt cs o).fb id d = .rpt cs o := rfl
theorem fb_own (id : Nat) (d : List Dat) (i : Nat) : (AV.own i).fb id d = .own i := rfl
theorem fb_ptr (id : Nat) (d : List Dat) (i o : Nat) : (AV.ptr i o).fb id d = if i = id then .rpt d o else .ptr i o := by
  show (bif Nat.beq i id then _ else _) = _
  by_cases h : i = id
  · subst h; rw [if_pos rfl, Nat.beq_refl]; rfl
  · rw [if_neg h]
    cases hb : Nat.beq i id
    · rfl
    · exact absurd (Nat.eq_of_beq_eq_true hb) h
theorem fb_ept (id : Nat) (d : List Dat) (i o : Nat) : (AV.ept i o).fb id d = .ept i o := rfl
theorem fb_agg (id : Nat) (d : List Dat) (l : List AV) : (AV.agg l).fb id d = .agg (AV.fbl id d l) := rfl
theorem fb_tup (id : Nat) (d : List Dat) (l : List AV) : (AV.tup l).fb id d = .tup (AV.fbl id d l) := rfl
theorem fb_clo (id : Nat) (d : List Dat) (f : FuncId) (l : List AV) : (AV.clo f l).fb id d = .clo f (AV.fbl id d l) := rfl
theorem fbv_nil (id : Nat) (d : List Dat) : fbv id d [] = [] := rfl
theorem fbv_cons (id : Nat) (d : List Dat) (t : Nat) (av : AV) (r : List (Nat × AV)) : fbv id d ((t, av) :: r) = (t, av.fb id d) :: fbv id d r := rfl
theorem fbl_nil (id : Nat) (d : List Dat) : AV.fbl id d [] = [] := rfl
theorem fbl_cons (id : Nat) (d : List Dat) (a : AV) (l : List AV) : AV.fbl id d (a :: l) = a.fb id d :: AV.fbl id d l := rfl
theorem fbo_nil (id : Nat) (d : List Dat) : fbo id d [] = [] := rfl
theorem fbo_cons (id : Nat) (d : List Dat) (o : AO) (l : List AO) : fbo id d (o :: l) = o.fb id d :: fbo id d l := rfl
theorem fbo_box (id : Nat) (d : List Dat) (l : List AV) : (AO.box l).fb id d = .box (AV.fbl id d l) := rfl
theorem fbo_row (id : Nat) (d : List Dat) (e : TypeId) (sz : Nat) (cs : List Dat) : (AO.row e sz cs).fb id d = .row e sz cs := rfl
theorem fbo_gone (id : Nat) (d : List Dat) : AO.gone.fb id d = .gone := rfl
/-- A nil slice in a cell of a box is an own slice without elements. -/
theorem w_nilboxC [Zs] {P : Program} {k : Nat} {cx : Cx k} {Q : Exit → St → Prop} {n : Nat} {vars : List (Nat × AV)} {objs objs' : List AO} {c : Code} (id o : Nat) {cells : List AV} (e : TypeId) (sz : Nat) (ho : objs[id]? = some (.box cells)) (hc : cells[o]? = some (.val (.slice none 0 0)))
    (hs : (objs ++ [AO.row e sz []]).set id (AO.box (cells.set o (.own objs.length))) = objs') (hk : aC P cx c Q ⟨n, vars, objs'⟩) : aC P cx c Q ⟨n, vars, objs⟩ := by
  subst hs
  exact a_nilbox (st := ⟨n, vars, objs⟩) id o e sz ho hc hk
/-- []T{a, b}, orders. -/
theorem w_lit_ord2 [Zs] {P : Program} {k : Nat} {cx : Cx k} {ops : Array Oper} {Q : Exit → St → Prop} {rest : List Oper} {ty : TypeId} {pos : String} {af : Array Edge} {n : Nat} {vars : List (Nat × AV)} {objs objs' : List AO} {d m : Nat}
    {T e : TypeId} {by' : Nat} {z : Value} {x y : Operand} {N N' : Int} {l l' : List Int} (hx : (⟨n, vars, objs⟩ : St).ev x = .agg [.val (.int .i64 N), ints l]) (hy : (⟨n, vars, objs⟩ : St).ev y = .agg [.val (.int .i64 N'), ints l']) (ht : SlT P T e 2) (hmk : MkT P e z 2 by')
    (ho : objs ++ [.row e 2 (ordc [(N, l), (N', l')])] = objs') (hm : objs.length = m) (hd : Nat.blt d n = true) (hk : aL P cx ops Q rest ⟨n, (d, .own m) :: vars, objs'⟩) :
    aL P cx ops Q (⟨some d, .buildSlice T 2 #[(0, x), (1, y)], ty, pos, af, none⟩ :: rest) ⟨n, vars, objs⟩ := by
  subst ho; subst hm
  exact l_lit (xs := [x, y]) rfl rfl ht hmk (by decide) (by decide) ⟨[.val (.int .i64 N), .sl 1 (intc l)], _, by rw [hx]; rfl, rfl, rfl, ⟨[.val (.int .i64 N'), .sl 1 (intc l')], [], by rw [hy]; rfl, rfl, rfl, rfl, rfl⟩, rfl⟩ hd hk
section
variable {P : Program} {st : St} {d : Option Tmp} {ty : TypeId} {pos : String} {af : Array Edge} {g : Option (Nat × Bool)} {T T' : TypeId} {x y : Operand} {m n r : Int}
theorem Q_quoE (hx : st.ev x = .val (.int .i64 m)) (hy : st.ev y = .val (.int .i64 n)) (h : 0 ≤ m ∧ m ≤ 9223372036854775807 ∧ 1 ≤ n) (hr : m / n = r) : QOp P ⟨d, .binOp .quo T x y T', ty, pos, af, g⟩ st (.val (.int .i64 r)) := hr ▸ Q_quo hx hy h
theorem Q_remE (hx : st.ev x = .val (.int .i64 m)) (hy : st.ev y = .val (.int .i64 n)) (h : 0 ≤ m ∧ 1 ≤ n) (hr : m % n = r) : QOp P ⟨d, .binOp .rem T x y T', ty, pos, af, g⟩ st (.val (.int .i64 r)) := hr ▸ Q_rem hx hy h
theorem Q_mulE (hx : st.ev x = .val (.int .i64 m)) (hy : st.ev y = .val (.int .i64 n)) (h : -9223372036854775808 ≤ r ∧ r ≤ 9223372036854775807) (hr : m * n = r) : QOp P ⟨d, .binOp .mul T x y T', ty, pos, af, g⟩ st (.val (.int .i64 r)) := by
  subst hr; exact Q_mul hx hy h
end
end Go.Proofs.Ythchhaaplimafaa
