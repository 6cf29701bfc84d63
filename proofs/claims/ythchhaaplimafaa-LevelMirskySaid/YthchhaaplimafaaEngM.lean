/- Slices of orders (a number and a slice of numbers, one behind the other); literals of one part; slices of pairs that grow. -/
import Derived.Test.YthchhaaplimafaaEngL
set_option linter.unusedSimpArgs false
set_option linter.unusedVariables false
namespace Go.Proofs.Ythchhaaplimafaa
open Go.RowKit

def ordc : List (Int × List Int) → List Dat
  | [] => []
  | p :: r => .val (.int .i64 p.1) :: .sl 1 (intc p.2) :: ordc r
def ords (l : List (Int × List Int)) : AV := .ro (.sl 2 (ordc l))
theorem ordc_len : ∀ (l : List (Int × List Int)), (ordc l).length = l.length * 2
  | [] => rfl
  | p :: r => by simp [ordc, ordc_len r]; omega
theorem ordc_get : ∀ {l : List (Int × List Int)} {o : Nat}, o < l.length → (ordc l)[o * 2]? = some (.val (.int .i64 (l.getD o (0, [])).1)) ∧ (ordc l)[o * 2 + 1]? = some (.sl 1 (intc (l.getD o (0, [])).2))
  | [], o, h => by simp at h
  | p :: r, 0, _ => ⟨rfl, rfl⟩
  | p :: r, o + 1, h => by
    have ih := ordc_get (l := r) (o := o) (by simpa using h)
    rw [show (o + 1) * 2 = o * 2 + 1 + 1 by omega]
    simpa [ordc] using ih

section
variable {P : Program} {k : Nat} {cx : Cx k} {ops : Array Oper} {Q : Exit → St → Prop} {st : St} {rest : List Oper} {d : Option Tmp} {ty : TypeId} {pos : String} {af : Array Edge} {g : Option (Nat × Bool)}
theorem Q_ix_ords {x ix : Operand} {T e : TypeId} {l : List (Int × List Int)} {i : Int} {o : Nat} (hx : st.ev x = ords l) (hi : st.ev ix = .val (.int .i64 i)) (ho : i = (o : Int)) (ht : SlT P T e 2) (h : o < l.length) :
    QOp P ⟨d, .indexAddr T x ix, ty, pos, af, g⟩ st (.rpt (ordc l) (o * 2)) := by
  have := Q_index_ro (P := P) (d := d) (ty := ty) (pos := pos) (af := af) (g := g) (x := x) (ix := ix) hx hi ht (ordc_len l) (by decide) ⟨by omega, by omega⟩
  rw [show i.toNat * 2 = o * 2 by omega] at this
  exact this
theorem Q_ld_ord {x : Operand} {T : TypeId} {l : List (Int × List Int)} {o : Nat} (hx : st.ev x = .rpt (ordc l) (o * 2)) (h : o < l.length) (ht : AgT P T 2) :
    QOp P ⟨d, .load T x, ty, pos, af, g⟩ st (.agg [.val (.int .i64 (l.getD o (0, [])).1), ints (l.getD o (0, [])).2]) :=
  Q_load_rpt_agg (ds := [.val (.int .i64 (l.getD o (0, [])).1), .sl 1 (intc (l.getD o (0, [])).2)]) hx (fun j dt hj => by
    match j, hj with
    | 0, hj => simp only [List.getElem?_cons_zero, Option.some.injEq] at hj; rw [← hj]; exact (ordc_get h).1
    | 1, hj => simp only [List.getElem?_cons_succ, List.getElem?_cons_zero, Option.some.injEq] at hj; rw [← hj]; exact (ordc_get h).2
    | j + 2, hj => simp at hj) rfl ht
theorem Q_len_ords {x : Operand} {T e : TypeId} {l : List (Int × List Int)} (hx : st.ev x = ords l) (ht : SlT P T e 2) : QOp P ⟨d, .call ⟨.builtin .len, #[x], #[T]⟩, ty, pos, af, g⟩ st (.val (.int .i64 (l.length : Int))) :=
  Q_len_ro rfl hx rfl ht (ordc_len l) (by decide)
end

section
variable {P : Program} {k : Nat} {cx : Cx k} {ops : Array Oper} {Q : Exit → St → Prop} {rest : List Oper} {ty : TypeId} {pos : String} {af : Array Edge} {n : Nat} {vars : List (Nat × AV)} {objs objs' : List AO} {d m : Nat}
theorem w_lit_ord [Zs] {T e : TypeId} {by' : Nat} {z : Value} {x : Operand} {N : Int} {l : List Int} (hx : (⟨n, vars, objs⟩ : St).ev x = .agg [.val (.int .i64 N), ints l]) (ht : SlT P T e 2) (hmk : MkT P e z 2 by')
    (ho : objs ++ [.row e 2 (ordc [(N, l)])] = objs') (hm : objs.length = m) (hd : Nat.blt d n = true) (hk : aL P cx ops Q rest ⟨n, (d, .own m) :: vars, objs'⟩) :
    aL P cx ops Q (⟨some d, .buildSlice T 1 #[(0, x)], ty, pos, af, none⟩ :: rest) ⟨n, vars, objs⟩ := by
  subst ho; subst hm
  exact l_lit (xs := [x]) rfl rfl ht hmk (by decide) (by decide) ⟨[.val (.int .i64 N), .sl 1 (intc l)], [], by rw [hx]; rfl, rfl, rfl, rfl, rfl⟩ hd hk
theorem w_lit_int [Zs] {T e : TypeId} {x : Operand} {v : Int} (hx : (⟨n, vars, objs⟩ : St).ev x = .val (.int .i64 v)) (ht : SlT P T e 1) (hmk : MkT P e (.int .i64 0) 1 8)
    (ho : objs ++ [.row e 1 (intc [v])] = objs') (hm : objs.length = m) (hd : Nat.blt d n = true) (hk : aL P cx ops Q rest ⟨n, (d, .own m) :: vars, objs'⟩) :
    aL P cx ops Q (⟨some d, .buildSlice T 1 #[(0, x)], ty, pos, af, none⟩ :: rest) ⟨n, vars, objs⟩ :=
  w_lit_ints (xs := [x]) (l := [v]) rfl rfl ht hmk (by decide) ⟨hx, trivial⟩ ho hm hd hk
theorem w_lit_nat [Zs] {T e : TypeId} {x : Operand} {v : Nat} (hx : (⟨n, vars, objs⟩ : St).ev x = .val (.int .i64 (v : Int))) (ht : SlT P T e 1) (hmk : MkT P e (.int .i64 0) 1 8)
    (ho : objs ++ [.row e 1 (intc (nl [v]))] = objs') (hm : objs.length = m) (hd : Nat.blt d n = true) (hk : aL P cx ops Q rest ⟨n, (d, .own m) :: vars, objs'⟩) :
    aL P cx ops Q (⟨some d, .buildSlice T 1 #[(0, x)], ty, pos, af, none⟩ :: rest) ⟨n, vars, objs⟩ :=
  w_lit_int hx ht hmk ho hm hd hk
theorem w_lit_pair [Zs] {T e : TypeId} {by' : Nat} {z : Value} {x : Operand} {a b : Int} (hx : (⟨n, vars, objs⟩ : St).ev x = .agg [.val (.int .i64 a), .val (.int .i64 b)]) (ht : SlT P T e 2) (hmk : MkT P e z 2 by')
    (ho : objs ++ [.row e 2 (pairc [(a, b)])] = objs') (hm : objs.length = m) (hd : Nat.blt d n = true) (hk : aL P cx ops Q rest ⟨n, (d, .own m) :: vars, objs'⟩) :
    aL P cx ops Q (⟨some d, .buildSlice T 1 #[(0, x)], ty, pos, af, none⟩ :: rest) ⟨n, vars, objs⟩ := by
  subst ho; subst hm
  exact l_lit (xs := [x]) rfl rfl ht hmk (by decide) (by decide) ⟨[.val (.int .i64 a), .val (.int .i64 b)], [], by rw [hx]; rfl, rfl, rfl, rfl, rfl⟩ hd hk
theorem w_ap_pairs [Zs] {T e : TypeId} {x y : Operand} {id id2 : Nat} {l r : List (Int × Int)} {e2 : TypeId} (hx : (⟨n, vars, objs⟩ : St).ev x = .own id) (hob : objs[id]? = some (.row e 2 (pairc l))) (hy : (⟨n, vars, objs⟩ : St).ev y = .own id2) (hob2 : objs[id2]? = some (.row e2 2 (pairc r)))
    (ht : SlT P T e 2) (hmk : MkT P e (.agg #[.int .i64 0, .int .i64 0]) 2 16) (hbig : l.length + r.length ≤ 10000000000) (ho : objs.set id .gone ++ [.row e 2 (pairc (l ++ r))] = objs') (hm : objs.length = m) (hd : Nat.blt d n = true)
    (hk : aL P cx ops Q rest ⟨n, (d, .own m) :: vars, objs'⟩) : aL P cx ops Q (⟨some d, .call ⟨.builtin .append, #[x, y], #[T, T]⟩, ty, pos, af, none⟩ :: rest) ⟨n, vars, objs⟩ := by
  subst ho; subst hm
  exact l_append (cs := pairc l) (cs2 := pairc r) rfl rfl hx hob (.inr (.inl ⟨id2, e2, hy, hob2⟩)) ht hmk rfl (pairc_len l) (pairc_len r) (by decide) (pairc_one r) (by decide) (by omega) hd (by rw [pairc_app]; exact hk)
end
theorem Vw.rowro2 {objs : List AO} {σ : List Nat} {id : Nat} {av : AV} {e : TypeId} {sz : Nat} {cs : List Dat} (h : objs[id]? = some (.row e sz cs)) (hn : id ∉ σ) (ha : AV.ro (.sl sz cs) = av) : Vw objs σ (.own id) av := ha ▸ .rowro id e sz cs h hn
end Go.Proofs.Ythchhaaplimafaa
