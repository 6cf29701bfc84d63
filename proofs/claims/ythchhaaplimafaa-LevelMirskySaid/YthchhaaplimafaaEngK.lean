/- Facts on types, found by their numbers; the laws once more, over states that are written out. -/
import Derived.Test.YthchhaaplimafaaEngJ
set_option linter.unusedSimpArgs false
set_option linter.unusedVariables false
namespace Go.Proofs.Ythchhaaplimafaa
open Go.RowKit
class KSz (P : Program) (T : TypeId) (n : outParam Nat) : Prop where h : SzOf P T n
class KSc (P : Program) (T : TypeId) : Prop where h : ScT P T
class KAg (P : Program) (T : TypeId) (n : outParam Nat) : Prop where h : AgT P T n
class KSl (P : Program) (T : TypeId) (e : outParam TypeId) (sz : outParam Nat) : Prop where h : SlT P T e sz
class KAr (P : Program) (T : TypeId) (n : outParam Nat) (e : outParam TypeId) (sz : outParam Nat) : Prop where h : ArT P T n e sz
class KFl (P : Program) (T : TypeId) (f : Nat) (off : outParam Nat) : Prop where h : FlT P T f off
class KMk (P : Program) (e : TypeId) (z : outParam Value) (sz : outParam Nat) (by' : outParam Nat) : Prop where h : MkT P e z sz by'
class KBd (P : Program) (T : TypeId) (zs : outParam (List Value)) (place : outParam (Nat → Option (Nat × Nat))) : Prop where h : BdT P T zs place

section
variable {P : Program} {k : Nat} {cx : Cx k} {ops : Array Oper} {Q : Exit → St → Prop} {rest : List Oper} {ty : TypeId} {pos : String} {af : Array Edge} {n : Nat} {vars : List (Nat × AV)} {objs objs' : List AO} {K : St → Prop} {d m : Nat}

theorem w_seq [Zs] {x y : Code} {st : St} (h : aC P cx x (thenA (fun st => aC P cx y Q st) Q) st) : aC P cx (.seq x y) Q st := a_seq h

theorem w_q [Zs] {op : Op} {av : AV} (hq : QOp P ⟨some d, op, ty, pos, af, none⟩ ⟨n, vars, objs⟩ av) (hd : Nat.blt d n = true) (h : aL P cx ops Q rest ⟨n, (d, av) :: vars, objs⟩) : aL P cx ops Q (⟨some d, op, ty, pos, af, none⟩ :: rest) ⟨n, vars, objs⟩ := l_q hq hd h
theorem w_qq [Zs] {op : Op} {av : AV} (hq : QOp P ⟨some d, op, ty, pos, af, none⟩ ⟨n, vars, objs⟩ av) (hd : Nat.blt d n = true) (h : qL P ops K rest ⟨n, (d, av) :: vars, objs⟩) : qL P ops K (⟨some d, op, ty, pos, af, none⟩ :: rest) ⟨n, vars, objs⟩ := q_q hq hd h

theorem w_guard [Zs] {op : Op} {j : Nat} {want : Bool} {dj : Nat} {b : Bool} (hj : (ops[j]?).bind (·.dst) = some dj) (hv : (⟨n, vars, objs⟩ : St).get dj = .val (.bool b)) (hd : Nat.blt d n = true)
    (yes : b = want → aL P cx ops Q (⟨some d, op, ty, pos, af, none⟩ :: rest) ⟨n, vars, objs⟩) (no : b = !want → aL P cx ops Q rest ⟨n, (d, .val undef) :: vars, objs⟩) : aL P cx ops Q (⟨some d, op, ty, pos, af, some (j, want)⟩ :: rest) ⟨n, vars, objs⟩ := l_guard hj hv hd yes no
theorem w_qguard [Zs] {op : Op} {j : Nat} {want : Bool} {dj : Nat} {b : Bool} (hj : (ops[j]?).bind (·.dst) = some dj) (hv : (⟨n, vars, objs⟩ : St).get dj = .val (.bool b)) (hd : Nat.blt d n = true)
    (yes : b = want → qL P ops K (⟨some d, op, ty, pos, af, none⟩ :: rest) ⟨n, vars, objs⟩) (no : b = !want → qL P ops K rest ⟨n, (d, .val undef) :: vars, objs⟩) : qL P ops K (⟨some d, op, ty, pos, af, some (j, want)⟩ :: rest) ⟨n, vars, objs⟩ := q_guard hj hv hd yes no
/-- What the guard looks at was not carried out. -/
theorem w_guard_u [Zs] {op : Op} {j : Nat} {want : Bool} {dj : Nat} (hj : (ops[j]?).bind (·.dst) = some dj) (hv : (⟨n, vars, objs⟩ : St).get dj = .val undef) (hd : Nat.blt d n = true)
    (no : aL P cx ops Q rest ⟨n, (d, .val undef) :: vars, objs⟩) : aL P cx ops Q (⟨some d, op, ty, pos, af, some (j, want)⟩ :: rest) ⟨n, vars, objs⟩ := l_guard_u hj hv hd no
theorem w_qguard_u [Zs] {op : Op} {j : Nat} {want : Bool} {dj : Nat} (hj : (ops[j]?).bind (·.dst) = some dj) (hv : (⟨n, vars, objs⟩ : St).get dj = .val undef) (hd : Nat.blt d n = true)
    (no : qL P ops K rest ⟨n, (d, .val undef) :: vars, objs⟩) : qL P ops K (⟨some d, op, ty, pos, af, some (j, want)⟩ :: rest) ⟨n, vars, objs⟩ := q_guard_u hj hv hd no
/-- The guard is known. -/
theorem w_guard_y [Zs] {op : Op} {j : Nat} {want : Bool} {dj : Nat} {b : Bool} (hj : (ops[j]?).bind (·.dst) = some dj) (hv : (⟨n, vars, objs⟩ : St).get dj = .val (.bool b)) (hd : Nat.blt d n = true) (hb : b = want)
    (yes : aL P cx ops Q (⟨some d, op, ty, pos, af, none⟩ :: rest) ⟨n, vars, objs⟩) : aL P cx ops Q (⟨some d, op, ty, pos, af, some (j, want)⟩ :: rest) ⟨n, vars, objs⟩ := l_guard hj hv hd (fun _ => yes) (fun h => by rw [hb] at h; cases want <;> cases h)
theorem w_guard_n [Zs] {op : Op} {j : Nat} {want : Bool} {dj : Nat} {b : Bool} (hj : (ops[j]?).bind (·.dst) = some dj) (hv : (⟨n, vars, objs⟩ : St).get dj = .val (.bool b)) (hd : Nat.blt d n = true) (hb : b = !want)
    (no : aL P cx ops Q rest ⟨n, (d, .val undef) :: vars, objs⟩) : aL P cx ops Q (⟨some d, op, ty, pos, af, some (j, want)⟩ :: rest) ⟨n, vars, objs⟩ := l_guard hj hv hd (fun h => by rw [hb] at h; cases want <;> cases h) (fun _ => no)
theorem w_qguard_y [Zs] {op : Op} {j : Nat} {want : Bool} {dj : Nat} {b : Bool} (hj : (ops[j]?).bind (·.dst) = some dj) (hv : (⟨n, vars, objs⟩ : St).get dj = .val (.bool b)) (hd : Nat.blt d n = true) (hb : b = want)
    (yes : qL P ops K (⟨some d, op, ty, pos, af, none⟩ :: rest) ⟨n, vars, objs⟩) : qL P ops K (⟨some d, op, ty, pos, af, some (j, want)⟩ :: rest) ⟨n, vars, objs⟩ := q_guard hj hv hd (fun _ => yes) (fun h => by rw [hb] at h; cases want <;> cases h)
theorem w_qguard_n [Zs] {op : Op} {j : Nat} {want : Bool} {dj : Nat} {b : Bool} (hj : (ops[j]?).bind (·.dst) = some dj) (hv : (⟨n, vars, objs⟩ : St).get dj = .val (.bool b)) (hd : Nat.blt d n = true) (hb : b = !want)
    (no : qL P ops K rest ⟨n, (d, .val undef) :: vars, objs⟩) : qL P ops K (⟨some d, op, ty, pos, af, some (j, want)⟩ :: rest) ⟨n, vars, objs⟩ := q_guard hj hv hd (fun h => by rw [hb] at h; cases want <;> cases h) (fun _ => no)

theorem w_box [Zs] {T : TypeId} {x : Operand} {l : List AV} (hx : (⟨n, vars, objs⟩ : St).ev x = .agg l) (h1 : l.all AV.one = true) (ho : objs ++ [.box l] = objs') (hm : objs.length = m) (hd : Nat.blt d n = true)
    (hk : aL P cx ops Q rest ⟨n, (d, .ptr m 0) :: vars, objs'⟩) : aL P cx ops Q (⟨some d, .box T x, ty, pos, af, none⟩ :: rest) ⟨n, vars, objs⟩ := by subst ho; subst hm; exact l_box hx rfl h1 hd hk
theorem w_box1 [Zs] {T : TypeId} {x : Operand} {av : AV} (hx : (⟨n, vars, objs⟩ : St).ev x = av) (hc : av.cells = [av]) (h1 : av.one = true) (ho : objs ++ [.box [av]] = objs') (hm : objs.length = m) (hd : Nat.blt d n = true)
    (hk : aL P cx ops Q rest ⟨n, (d, .ptr m 0) :: vars, objs'⟩) : aL P cx ops Q (⟨some d, .box T x, ty, pos, af, none⟩ :: rest) ⟨n, vars, objs⟩ := by subst ho; subst hm; exact l_box hx hc (by simp [h1]) hd hk
theorem w_alloc [Zs] {T : TypeId} {z : Value} {sz by' : Nat} {l : List AV} (ht : MkT P T z sz by') (hl : (AV.val z).cells = l) (h1 : l.all AV.one = true) (ho : objs ++ [.box l] = objs') (hm : objs.length = m) (hd : Nat.blt d n = true)
    (hk : aL P cx ops Q rest ⟨n, (d, .ptr m 0) :: vars, objs'⟩) : aL P cx ops Q (⟨some d, .alloc T, ty, pos, af, none⟩ :: rest) ⟨n, vars, objs⟩ := by subst ho; subst hm; exact l_alloc ht hl h1 hd hk
theorem w_store [Zs] {T : TypeId} {x y : Operand} {id o : Nat} {cells cells' : List AV} {av : AV} (hx : (⟨n, vars, objs⟩ : St).ev x = .ptr id o) (hob : objs[id]? = some (.box cells)) (hlt : Nat.blt o cells.length = true) (hy : (⟨n, vars, objs⟩ : St).ev y = av) (h1 : av.one = true)
    (ht : SzOf P T 1) (hc : cells.set o av = cells') (ho : objs.set id (.box cells') = objs') (hk : aL P cx ops Q rest ⟨n, vars, objs'⟩) : aL P cx ops Q (⟨none, .store T x y, ty, pos, af, none⟩ :: rest) ⟨n, vars, objs⟩ := by subst hc; subst ho; exact l_store_ptr hx hob hlt hy h1 ht hk
/-- A store of a whole struct over all of a box. -/
theorem w_store_all [Zs] {T : TypeId} {x y : Operand} {id : Nat} {cells l : List AV} (hx : (⟨n, vars, objs⟩ : St).ev x = .ptr id 0) (hob : objs[id]? = some (.box cells)) (hy : (⟨n, vars, objs⟩ : St).ev y = .agg l) (hl : l.length = cells.length) (h1 : l.all AV.one = true)
    (ht : SzOf P T cells.length) (ho : objs.set id (.box l) = objs') (hk : aL P cx ops Q rest ⟨n, vars, objs'⟩) : aL P cx ops Q (⟨none, .store T x y, ty, pos, af, none⟩ :: rest) ⟨n, vars, objs⟩ := by
  subst ho
  refine l_store_agg (l := l) hx hob (Nat.ble_eq_true_of_le (by omega)) (by rw [hy]; rfl) hl h1 ht ?_
  simpa [St.set] using hk
theorem w_st_ints [Zs] {T e : TypeId} {x y : Operand} {id o : Nat} {l : List Int} {v : Int} (hx : (⟨n, vars, objs⟩ : St).ev x = .ept id o) (hob : objs[id]? = some (.row e 1 (intc l))) (hy : (⟨n, vars, objs⟩ : St).ev y = .val (.int .i64 v)) (ht : SzOf P T 1) (h : o < l.length)
    (ho : objs.set id (.row e 1 (intc (l.set o v))) = objs') (hk : aL P cx ops Q rest ⟨n, vars, objs'⟩) : aL P cx ops Q (⟨none, .store T x y, ty, pos, af, none⟩ :: rest) ⟨n, vars, objs⟩ := by subst ho; exact l_st_ints hx hob hy ht h hk
theorem w_st_bools [Zs] {T e : TypeId} {x y : Operand} {id o : Nat} {l : List Bool} {v : Bool} (hx : (⟨n, vars, objs⟩ : St).ev x = .ept id o) (hob : objs[id]? = some (.row e 1 (boolc l))) (hy : (⟨n, vars, objs⟩ : St).ev y = .val (.bool v)) (ht : SzOf P T 1) (h : o < l.length)
    (ho : objs.set id (.row e 1 (boolc (l.set o v))) = objs') (hk : aL P cx ops Q rest ⟨n, vars, objs'⟩) : aL P cx ops Q (⟨none, .store T x y, ty, pos, af, none⟩ :: rest) ⟨n, vars, objs⟩ := by subst ho; exact l_st_bools hx hob hy ht h hk
theorem w_mk_ints [Zs] {T e : TypeId} {x y : Operand} {i : Int} {o : Nat} (hx : (⟨n, vars, objs⟩ : St).ev x = .val (.int .i64 i)) (hy : (⟨n, vars, objs⟩ : St).ev y = .val (.int .i64 i)) (hi : i = (o : Int)) (ht : SlT P T e 1) (hmk : MkT P e (.int .i64 0) 1 8) (hbig : o ≤ 10000000000)
    (ho : objs ++ [.row e 1 (intc (List.replicate o 0))] = objs') (hm : objs.length = m) (hd : Nat.blt d n = true) (hk : aL P cx ops Q rest ⟨n, (d, .own m) :: vars, objs'⟩) : aL P cx ops Q (⟨some d, .makeSlice T x y, ty, pos, af, none⟩ :: rest) ⟨n, vars, objs⟩ := by
  subst ho; subst hm; exact l_mk_ints hx hy hi ht hmk hbig hd hk
theorem w_mk_bools [Zs] {T e : TypeId} {x y : Operand} {i : Int} {o : Nat} (hx : (⟨n, vars, objs⟩ : St).ev x = .val (.int .i64 i)) (hy : (⟨n, vars, objs⟩ : St).ev y = .val (.int .i64 i)) (hi : i = (o : Int)) (ht : SlT P T e 1) (hmk : MkT P e (.bool false) 1 1) (hbig : o ≤ 10000000000)
    (ho : objs ++ [.row e 1 (boolc (List.replicate o false))] = objs') (hm : objs.length = m) (hd : Nat.blt d n = true) (hk : aL P cx ops Q rest ⟨n, (d, .own m) :: vars, objs'⟩) : aL P cx ops Q (⟨some d, .makeSlice T x y, ty, pos, af, none⟩ :: rest) ⟨n, vars, objs⟩ := by
  subst ho; subst hm; exact l_mk_bools hx hy hi ht hmk hbig hd hk
theorem w_ap_ints [Zs] {T e : TypeId} {x y : Operand} {id id2 : Nat} {l r : List Int} {e2 : TypeId} (hx : (⟨n, vars, objs⟩ : St).ev x = .own id) (hob : objs[id]? = some (.row e 1 (intc l))) (hy : (⟨n, vars, objs⟩ : St).ev y = .own id2) (hob2 : objs[id2]? = some (.row e2 1 (intc r)))
    (ht : SlT P T e 1) (hmk : MkT P e (.int .i64 0) 1 8) (hbig : l.length + r.length ≤ 10000000000) (ho : objs.set id .gone ++ [.row e 1 (intc (l ++ r))] = objs') (hm : objs.length = m) (hd : Nat.blt d n = true)
    (hk : aL P cx ops Q rest ⟨n, (d, .own m) :: vars, objs'⟩) : aL P cx ops Q (⟨some d, .call ⟨.builtin .append, #[x, y], #[T, T]⟩, ty, pos, af, none⟩ :: rest) ⟨n, vars, objs⟩ := by
  subst ho; subst hm; exact l_ap_ints hx hob hy hob2 ht hmk hbig hd hk
theorem w_lit_ints [Zs] {T e : TypeId} {len : Nat} {parts : Array (Nat × Operand)} {xs : List Operand} {l : List Int} (hp : parts = (enumP 0 xs).toArray) (hn : xs.length = len) (ht : SlT P T e 1) (hmk : MkT P e (.int .i64 0) 1 8) (hbig : Nat.ble (len * 1) 16777216 = true)
    (hl : Ints ⟨n, vars, objs⟩ xs l) (ho : objs ++ [.row e 1 (intc l)] = objs') (hm : objs.length = m) (hd : Nat.blt d n = true) (hk : aL P cx ops Q rest ⟨n, (d, .own m) :: vars, objs'⟩) :
    aL P cx ops Q (⟨some d, .buildSlice T len parts, ty, pos, af, none⟩ :: rest) ⟨n, vars, objs⟩ := by subst ho; subst hm; exact l_lit_ints hp hn ht hmk hbig hl hd hk
/-- The whole of a box. -/
theorem Q_load_all {dd : Option Tmp} {g : Option (Nat × Bool)} {x : Operand} {T : TypeId} {id : Nat} {cells : List AV} (hx : (⟨n, vars, objs⟩ : St).ev x = .ptr id 0) (ho : objs[id]? = some (.box cells)) (ht : AgT P T cells.length) :
    QOp P ⟨dd, .load T x, ty, pos, af, g⟩ ⟨n, vars, objs⟩ (.agg cells) := Q_load_ptr_agg (cells := cells) hx ho (by simp) rfl ht
theorem w_nilown [Zs] (t : Nat) (e : TypeId) (sz : Nat) (h : (⟨n, vars, objs⟩ : St).get t = .val (.slice none 0 0)) (ho : objs ++ [.row e sz []] = objs') (hm : objs.length = m) (hk : aL P cx ops Q rest ⟨n, (t, .own m) :: vars, objs'⟩) : aL P cx ops Q rest ⟨n, vars, objs⟩ := by
  subst ho; subst hm; exact l_nilown t e sz h hk
theorem w_nilownC [Zs] {c : Code} (t : Nat) (e : TypeId) (sz : Nat) (h : (⟨n, vars, objs⟩ : St).get t = .val (.slice none 0 0)) (ho : objs ++ [.row e sz []] = objs') (hm : objs.length = m) (hk : aC P cx c Q ⟨n, (t, .own m) :: vars, objs'⟩) : aC P cx c Q ⟨n, vars, objs⟩ := by
  subst ho; subst hm; exact a_nilown t e sz h hk
theorem w_call [Zs] {g : Operand} {xs : Array Operand} {ats : Array TypeId} {f : FuncId} {caps args : List AV} {res res' : AV} {news : List AO} (hf : Callee' ⟨n, vars, objs⟩ g f caps) (hc : AC P f args [] res news) (hv : VwL objs [] (evs ⟨n, vars, objs⟩ xs ++ caps) args)
    (hfl : Flat res) (hfo : ∀ o ∈ news, FlatO o) (ho : objs ++ news.map (AO.sh objs.length) = objs') (hr : res.sh objs.length = res') (hd : Nat.blt d n = true) (hk : aL P cx ops Q rest ⟨n, (d, res') :: vars, objs'⟩) :
    aL P cx ops Q (⟨some d, .call ⟨.value g, xs, ats⟩, ty, pos, af, none⟩ :: rest) ⟨n, vars, objs⟩ := by subst ho; subst hr; exact l_call hf hc hv hfl hfo hd hk
end
end Go.Proofs.Ythchhaaplimafaa
