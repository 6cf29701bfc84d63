/- Slices of slices laid out; parts that are the call's own are only read from then on. -/
import Derived.Test.YthchhaaplimafaaEngT
set_option linter.unusedSimpArgs false
set_option linter.unusedVariables false
namespace Go.Proofs.Ythchhaaplimafaa
open Go.RowKit
section
variable {P : Program} {k : Nat} {cx : Cx k} {ops : Array Oper} {Q : Exit → St → Prop} {rest : List Oper} {ty : TypeId} {pos : String} {af : Array Edge} {n : Nat} {vars : List (Nat × AV)} {objs objs1 objs' : List AO} {d m : Nat}
def Rws (st : St) : List Operand → List (List Int) → Prop
  | [], [] => True
  | x :: r, n :: l => st.ev x = ints n ∧ Rws st r l
  | _, _ => False
theorem rws_part {st : St} : ∀ {xs : List Operand} {l : List (List Int)}, Rws st xs l → PartD st 1 xs (rowc l)
  | [], [], _ => rfl
  | _ :: _, _ :: _, ⟨h, h'⟩ => ⟨[.sl 1 (intc _)], _, by rw [h]; rfl, rfl, rfl, rws_part h', rfl⟩
theorem w_lit_rows [Zs] {T e : TypeId} {by' N : Nat} {z : Value} {parts : Array (Nat × Operand)} {xs : List Operand} {l : List (List Int)} (hp : parts = (enumP 0 xs).toArray) (hn : xs.length = N) (ht : SlT P T e 1) (hmk : MkT P e z 1 by') (hbig : Nat.ble (N * 1) 16777216 = true)
    (hl : Rws ⟨n, vars, objs⟩ xs l) (ho : objs ++ [.row e 1 (rowc l)] = objs') (hm : objs.length = m) (hd : Nat.blt d n = true) (hk : aL P cx ops Q rest ⟨n, (d, .own m) :: vars, objs'⟩) : aL P cx ops Q (⟨some d, .buildSlice T N parts, ty, pos, af, none⟩ :: rest) ⟨n, vars, objs⟩ := by
  subst ho; subst hm
  exact l_lit hp hn ht hmk (by decide) hbig (rws_part hl) hd hk
theorem w_lit_r2 [Zs] {T e : TypeId} {by' : Nat} {z : Value} {x y : Operand} {a b : List Int} (hx : (⟨n, vars, objs⟩ : St).ev x = ints a) (hy : (⟨n, vars, objs⟩ : St).ev y = ints b) (ht : SlT P T e 1) (hmk : MkT P e z 1 by')
    (ho : objs ++ [.row e 1 (rowc [a, b])] = objs') (hm : objs.length = m) (hd : Nat.blt d n = true) (hk : aL P cx ops Q rest ⟨n, (d, .own m) :: vars, objs'⟩) :
    aL P cx ops Q (⟨some d, .buildSlice T 2 #[(0, x), (1, y)], ty, pos, af, none⟩ :: rest) ⟨n, vars, objs⟩ :=
  w_lit_rows (xs := [x, y]) (l := [a, b]) rfl rfl ht hmk (by decide) ⟨hx, hy, trivial⟩ ho hm hd hk
theorem w_lit_r3 [Zs] {T e : TypeId} {by' : Nat} {z : Value} {x y u : Operand} {a b c : List Int} (hx : (⟨n, vars, objs⟩ : St).ev x = ints a) (hy : (⟨n, vars, objs⟩ : St).ev y = ints b) (hu : (⟨n, vars, objs⟩ : St).ev u = ints c) (ht : SlT P T e 1) (hmk : MkT P e z 1 by')
    (ho : objs ++ [.row e 1 (rowc [a, b, c])] = objs') (hm : objs.length = m) (hd : Nat.blt d n = true) (hk : aL P cx ops Q rest ⟨n, (d, .own m) :: vars, objs'⟩) :
    aL P cx ops Q (⟨some d, .buildSlice T 3 #[(0, x), (1, y), (2, u)], ty, pos, af, none⟩ :: rest) ⟨n, vars, objs⟩ :=
  w_lit_rows (xs := [x, y, u]) (l := [a, b, c]) rfl rfl ht hmk (by decide) ⟨hx, hy, hu, trivial⟩ ho hm hd hk
theorem w_lit_r4 [Zs] {T e : TypeId} {by' : Nat} {z : Value} {x y u v : Operand} {a b c r : List Int} (hx : (⟨n, vars, objs⟩ : St).ev x = ints a) (hy : (⟨n, vars, objs⟩ : St).ev y = ints b) (hu : (⟨n, vars, objs⟩ : St).ev u = ints c) (hv : (⟨n, vars, objs⟩ : St).ev v = ints r) (ht : SlT P T e 1) (hmk : MkT P e z 1 by')
    (ho : objs ++ [.row e 1 (rowc [a, b, c, r])] = objs') (hm : objs.length = m) (hd : Nat.blt d n = true) (hk : aL P cx ops Q rest ⟨n, (d, .own m) :: vars, objs'⟩) :
    aL P cx ops Q (⟨some d, .buildSlice T 4 #[(0, x), (1, y), (2, u), (3, v)], ty, pos, af, none⟩ :: rest) ⟨n, vars, objs⟩ :=
  w_lit_rows (xs := [x, y, u, v]) (l := [a, b, c, r]) rfl rfl ht hmk (by decide) ⟨hx, hy, hu, hv, trivial⟩ ho hm hd hk
theorem w_lit_r1o [Zs] {T e e' : TypeId} {by' t id : Nat} {z : Value} {r : List Int} (hx : (⟨n, vars, objs⟩ : St).get t = .own id) (hob : objs[id]? = some (.row e' 1 (intc r))) (ht : SlT P T e 1) (hmk : MkT P e z 1 by')
    (ho1 : objs.set id .gone = objs1) (ho : objs1 ++ [.row e 1 (rowc [r])] = objs') (hm : objs1.length = m) (hd : Nat.blt d n = true) (hk : aL P cx ops Q rest ⟨n, (d, .own m) :: (t, ints r) :: vars, objs'⟩) :
    aL P cx ops Q (⟨some d, .buildSlice T 1 #[(0, .tmp t)], ty, pos, af, none⟩ :: rest) ⟨n, vars, objs⟩ :=
  w_freeze t id hx hob ho1 (w_lit_r1 (by show getv ((t, _) :: vars) t = _; rw [getv_cons, if_pos rfl]; rfl) ht hmk ho hm hd hk)
end
end Go.Proofs.Ythchhaaplimafaa
