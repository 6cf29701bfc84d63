/- An own slice that is from now on only read; literals of a few parts. -/
import Derived.Test.YthchhaaplimafaaEngO
set_option linter.unusedSimpArgs false
set_option linter.unusedVariables false
namespace Go.Proofs.Ythchhaaplimafaa
open Go.RowKit

section
variable {P : Program} {k : Nat} {cx : Cx k} {ops : Array Oper} {Q : Exit → St → Prop} {st : St} {rest : List Oper}
theorem rel_freeze [Zs] {a : Act} {w : World} (t id : Nat) {e : TypeId} {sz : Nat} {cs : List Dat} (h : st.get t = .own id) (ho : st.objs[id]? = some (.row e sz cs)) (hr : Rel cx st a w) : Rel cx ((st.set id .gone).put t (.ro (.sl sz cs))) a w := by
  obtain ⟨ρ, hb, hf, h0⟩ := hr.base
  obtain ⟨hg, hM⟩ := hb.good.drop id
  have hid := (List.getElem?_eq_some_iff.1 ho).1
  refine Rel.step hr hf h0 (Same.refl _ _) (fun _ _ h => h) (fun b _ h => hM b h) (ρ' := ρ) ⟨fun t' => ?_, hb.size, hb.defers, hg⟩
  show Gm ρ w (Ban ρ (st.objs.set id .gone)) (getv ((t, .ro (.sl sz cs)) :: st.vars) t') _
  rw [getv_cons]
  by_cases ht : t = t'
  · subst ht
    rw [if_pos rfl]
    have hfr := hb.frame t
    rw [h] at hfr
    obtain ⟨l, hl⟩ := hfr.own_inv
    obtain ⟨v, n, us, h1, h2, h3, h4⟩ := hb.good.sat id _ ho
    rw [h1] at hl
    obtain ⟨hv, _⟩ := List.cons.inj (Option.some.inj hl)
    rw [← hv]
    refine .ro _ _ (row_rd h2 h3 (fun b hb' hown => ?_) fun i d hd => ?_)
    · rcases hown with ⟨id', hft⟩ | hz
      rotate_left 1
      · exact hb.good.zf _ _ ⟨_, _, ho, rfl, h1, v, by simp, hb'⟩ hz
      rcases foot_set hid hft with ⟨_, hlive, _⟩ | ⟨hne, hft'⟩
      · cases hlive
      · exact hne (hb.good.dis _ _ _ hft' ⟨_, _, ho, rfl, h1, v, by simp, hb'⟩)
    · obtain ⟨u, hu, hrd⟩ := h4 i d hd
      exact ⟨u, hu, hrd.mono (Same.refl (Ban ρ st.objs) w) (Ban.mono fun b _ h => hM b h)⟩
  · rw [if_neg ht]
    exact (hb.frame t').ext (Same.refl _ _) (fun _ _ h => h) (fun b _ h => hM b h)
end

section
variable {P : Program} {k : Nat} {cx : Cx k} {ops : Array Oper} {Q : Exit → St → Prop} {rest : List Oper} {ty : TypeId} {pos : String} {af : Array Edge} {n : Nat} {vars : List (Nat × AV)} {objs objs' : List AO} {d m : Nat}
theorem w_freeze [Zs] (t id : Nat) {e : TypeId} {sz : Nat} {cs : List Dat} (h : (⟨n, vars, objs⟩ : St).get t = .own id) (ho : objs[id]? = some (.row e sz cs)) (hs : objs.set id .gone = objs') (hk : aL P cx ops Q rest ⟨n, (t, .ro (.sl sz cs)) :: vars, objs'⟩) : aL P cx ops Q rest ⟨n, vars, objs⟩ := by
  subst hs
  exact fun a w hr => hk a w (rel_freeze t id h ho hr)
theorem w_freezeC [Zs] (t id : Nat) {c : Code} {e : TypeId} {sz : Nat} {cs : List Dat} (h : (⟨n, vars, objs⟩ : St).get t = .own id) (ho : objs[id]? = some (.row e sz cs)) (hs : objs.set id .gone = objs') (hk : aC P cx c Q ⟨n, (t, .ro (.sl sz cs)) :: vars, objs'⟩) : aC P cx c Q ⟨n, vars, objs⟩ := by
  subst hs
  exact fun a w hr => hk a w (rel_freeze t id h ho hr)

theorem w_lit_i2 [Zs] {T e : TypeId} {x y : Operand} {u v : Int} (hx : (⟨n, vars, objs⟩ : St).ev x = .val (.int .i64 u)) (hy : (⟨n, vars, objs⟩ : St).ev y = .val (.int .i64 v)) (ht : SlT P T e 1) (hmk : MkT P e (.int .i64 0) 1 8)
    (ho : objs ++ [.row e 1 (intc [u, v])] = objs') (hm : objs.length = m) (hd : Nat.blt d n = true) (hk : aL P cx ops Q rest ⟨n, (d, .own m) :: vars, objs'⟩) :
    aL P cx ops Q (⟨some d, .buildSlice T 2 #[(0, x), (1, y)], ty, pos, af, none⟩ :: rest) ⟨n, vars, objs⟩ :=
  w_lit_ints (xs := [x, y]) (l := [u, v]) rfl rfl ht hmk (by decide) ⟨hx, hy, trivial⟩ ho hm hd hk
theorem w_lit_i3 [Zs] {T e : TypeId} {x y z : Operand} {u v r : Int} (hx : (⟨n, vars, objs⟩ : St).ev x = .val (.int .i64 u)) (hy : (⟨n, vars, objs⟩ : St).ev y = .val (.int .i64 v)) (hz : (⟨n, vars, objs⟩ : St).ev z = .val (.int .i64 r)) (ht : SlT P T e 1) (hmk : MkT P e (.int .i64 0) 1 8)
    (ho : objs ++ [.row e 1 (intc [u, v, r])] = objs') (hm : objs.length = m) (hd : Nat.blt d n = true) (hk : aL P cx ops Q rest ⟨n, (d, .own m) :: vars, objs'⟩) :
    aL P cx ops Q (⟨some d, .buildSlice T 3 #[(0, x), (1, y), (2, z)], ty, pos, af, none⟩ :: rest) ⟨n, vars, objs⟩ :=
  w_lit_ints (xs := [x, y, z]) (l := [u, v, r]) rfl rfl ht hmk (by decide) ⟨hx, hy, hz, trivial⟩ ho hm hd hk
theorem w_lit_i4 [Zs] {T e : TypeId} {x y z q : Operand} {u v r s : Int} (hx : (⟨n, vars, objs⟩ : St).ev x = .val (.int .i64 u)) (hy : (⟨n, vars, objs⟩ : St).ev y = .val (.int .i64 v)) (hz : (⟨n, vars, objs⟩ : St).ev z = .val (.int .i64 r)) (hq : (⟨n, vars, objs⟩ : St).ev q = .val (.int .i64 s)) (ht : SlT P T e 1) (hmk : MkT P e (.int .i64 0) 1 8)
    (ho : objs ++ [.row e 1 (intc [u, v, r, s])] = objs') (hm : objs.length = m) (hd : Nat.blt d n = true) (hk : aL P cx ops Q rest ⟨n, (d, .own m) :: vars, objs'⟩) :
    aL P cx ops Q (⟨some d, .buildSlice T 4 #[(0, x), (1, y), (2, z), (3, q)], ty, pos, af, none⟩ :: rest) ⟨n, vars, objs⟩ :=
  w_lit_ints (xs := [x, y, z, q]) (l := [u, v, r, s]) rfl rfl ht hmk (by decide) ⟨hx, hy, hz, hq, trivial⟩ ho hm hd hk
theorem w_lit_p2 [Zs] {T e : TypeId} {by' : Nat} {z : Value} {x y : Operand} {a b a' b' : Int} (hx : (⟨n, vars, objs⟩ : St).ev x = .agg [.val (.int .i64 a), .val (.int .i64 b)]) (hy : (⟨n, vars, objs⟩ : St).ev y = .agg [.val (.int .i64 a'), .val (.int .i64 b')]) (ht : SlT P T e 2) (hmk : MkT P e z 2 by')
    (ho : objs ++ [.row e 2 (pairc [(a, b), (a', b')])] = objs') (hm : objs.length = m) (hd : Nat.blt d n = true) (hk : aL P cx ops Q rest ⟨n, (d, .own m) :: vars, objs'⟩) :
    aL P cx ops Q (⟨some d, .buildSlice T 2 #[(0, x), (1, y)], ty, pos, af, none⟩ :: rest) ⟨n, vars, objs⟩ := by
  subst ho; subst hm
  exact l_lit (xs := [x, y]) rfl rfl ht hmk (by decide) (by decide) ⟨[.val (.int .i64 a), .val (.int .i64 b)], _, by rw [hx]; rfl, rfl, rfl, ⟨[.val (.int .i64 a'), .val (.int .i64 b')], [], by rw [hy]; rfl, rfl, rfl, rfl, rfl⟩, rfl⟩ hd hk
/-- []T{x}, x a slice that is read. -/
theorem w_lit_r1 [Zs] {T e : TypeId} {by' : Nat} {z : Value} {x : Operand} {r : List Int} (hx : (⟨n, vars, objs⟩ : St).ev x = ints r) (ht : SlT P T e 1) (hmk : MkT P e z 1 by')
    (ho : objs ++ [.row e 1 (rowc [r])] = objs') (hm : objs.length = m) (hd : Nat.blt d n = true) (hk : aL P cx ops Q rest ⟨n, (d, .own m) :: vars, objs'⟩) :
    aL P cx ops Q (⟨some d, .buildSlice T 1 #[(0, x)], ty, pos, af, none⟩ :: rest) ⟨n, vars, objs⟩ := by
  subst ho; subst hm
  exact l_lit (xs := [x]) rfl rfl ht hmk (by decide) (by decide) ⟨[.sl 1 (intc r)], [], by rw [hx]; rfl, rfl, rfl, rfl, rfl⟩ hd hk
end
section
variable {P : Program} {st : St} {d : Option Tmp} {T : TypeId} {x y : Operand} {ty : TypeId} {pos : String} {af : Array Edge} {g : Option (Nat × Bool)} {m n : Nat} {T1 T2 : TypeId}
theorem Q_maxN (hx : st.ev x = .val (.int .i64 (m : Int))) (hy : st.ev y = .val (.int .i64 (n : Int))) : QOp P ⟨d, .call ⟨.builtin .max, #[x, y], #[T1, T2]⟩, ty, pos, af, g⟩ st (.val (.int .i64 ((max m n : Nat) : Int))) := by
  have := Q_max (P := P) (d := d) (ty := ty) (pos := pos) (af := af) (g := g) (ats := #[T1, T2]) rfl hx hy
  rwa [show max (m : Int) (n : Int) = ((max m n : Nat) : Int) by omega] at this
theorem Q_minN (hx : st.ev x = .val (.int .i64 (m : Int))) (hy : st.ev y = .val (.int .i64 (n : Int))) : QOp P ⟨d, .call ⟨.builtin .min, #[x, y], #[T1, T2]⟩, ty, pos, af, g⟩ st (.val (.int .i64 ((min m n : Nat) : Int))) := by
  have := Q_min (P := P) (d := d) (ty := ty) (pos := pos) (af := af) (g := g) (ats := #[T1, T2]) rfl hx hy
  rwa [show min (m : Int) (n : Int) = ((min m n : Nat) : Int) by omega] at this
theorem Q_incN (hx : st.ev x = .val (.int .i64 (m : Int))) (hy : st.ev y = .val (.int .i64 1)) (h : m < 9223372036854775807) : QOp P ⟨d, .binOp .add T x y T1, ty, pos, af, g⟩ st (.val (.int .i64 ((m + 1 : Nat) : Int))) :=
  Q_addN (n := 1) hx hy (by omega)
end
end Go.Proofs.Ythchhaaplimafaa
