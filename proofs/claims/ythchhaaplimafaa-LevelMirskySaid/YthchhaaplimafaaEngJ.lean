/- Slices of numbers, of pairs of numbers, of truths, of slices of numbers. -/
import Derived.Test.YthchhaaplimafaaEngI
set_option linter.unusedSimpArgs false
set_option linter.unusedVariables false
namespace Go.Proofs.Ythchhaaplimafaa
open Go.RowKit

def vi (n : Int) : Value := .int .i64 n
def intc (l : List Int) : List Dat := l.map fun n => .val (.int .i64 n)
def boolc (l : List Bool) : List Dat := l.map fun b => .val (.bool b)
def pairc : List (Int × Int) → List Dat
  | [] => []
  | p :: r => .val (.int .i64 p.1) :: .val (.int .i64 p.2) :: pairc r
def rowc (m : List (List Int)) : List Dat := m.map fun r => .sl 1 (intc r)
def ints (l : List Int) : AV := .ro (.sl 1 (intc l))
def pairs (l : List (Int × Int)) : AV := .ro (.sl 2 (pairc l))
def rows (m : List (List Int)) : AV := .ro (.sl 1 (rowc m))

theorem intc_len (l : List Int) : (intc l).length = l.length * 1 := by simp [intc]
theorem intc_len' (l : List Int) : (intc l).length = l.length := by simp [intc]
theorem boolc_len (l : List Bool) : (boolc l).length = l.length * 1 := by simp [boolc]
theorem rowc_len (l : List (List Int)) : (rowc l).length = l.length * 1 := by simp [rowc]
theorem pairc_len : ∀ (l : List (Int × Int)), (pairc l).length = l.length * 2
  | [] => rfl
  | p :: r => by simp [pairc, pairc_len r]; omega

theorem intc_get {l : List Int} {o : Nat} (h : o < l.length) : (intc l)[o]? = some (.val (.int .i64 (l.getD o 0))) := by simp [intc, h]
theorem boolc_get {l : List Bool} {o : Nat} (h : o < l.length) : (boolc l)[o]? = some (.val (.bool (l.getD o false))) := by simp [boolc, h]
theorem rowc_get {l : List (List Int)} {o : Nat} (h : o < l.length) : (rowc l)[o]? = some (.sl 1 (intc (l.getD o []))) := by simp [rowc, h]
theorem pairc_get : ∀ {l : List (Int × Int)} {o : Nat}, o < l.length → (pairc l)[o * 2]? = some (.val (.int .i64 (l.getD o (0, 0)).1)) ∧ (pairc l)[o * 2 + 1]? = some (.val (.int .i64 (l.getD o (0, 0)).2))
  | [], o, h => by simp at h
  | p :: r, 0, _ => ⟨rfl, rfl⟩
  | p :: r, o + 1, h => by
    have ih := pairc_get (l := r) (o := o) (by simpa using h)
    rw [show (o + 1) * 2 = o * 2 + 1 + 1 by omega]
    simpa [pairc] using ih

theorem intc_set (l : List Int) (o : Nat) (v : Int) : (intc l).set o (.val (.int .i64 v)) = intc (l.set o v) := by simp [intc, List.map_set]
theorem boolc_set (l : List Bool) (o : Nat) (v : Bool) : (boolc l).set o (.val (.bool v)) = boolc (l.set o v) := by simp [boolc, List.map_set]
theorem intc_app (l : List Int) (r : List Int) : intc l ++ intc r = intc (l ++ r) := by simp [intc]
theorem rowc_app (l : List (List Int)) (r : List (List Int)) : rowc l ++ rowc r = rowc (l ++ r) := by simp [rowc]
theorem pairc_app : ∀ (l r : List (Int × Int)), pairc l ++ pairc r = pairc (l ++ r)
  | [], r => rfl
  | p :: l, r => by simp [pairc, pairc_app l r]
theorem intc_rep (n : Nat) (v : Int) : List.replicate (n * 1) (.val (.int .i64 v)) = intc (List.replicate n v) := by simp [intc]
theorem intc_one (l : List Int) : ∀ dt ∈ intc l, dt.one = true := by
  intro dt h
  obtain ⟨n, _, rfl⟩ := List.mem_map.1 h
  rfl
theorem pairc_one : ∀ (l : List (Int × Int)), ∀ dt ∈ pairc l, dt.one = true
  | [], dt, h => by cases h
  | p :: r, dt, h => by
    simp only [pairc, List.mem_cons] at h
    rcases h with rfl | rfl | h
    · rfl
    · rfl
    · exact pairc_one r dt h
theorem rowc_one (l : List (List Int)) : ∀ dt ∈ rowc l, dt.one = true := by
  intro dt h
  obtain ⟨n, _, rfl⟩ := List.mem_map.1 h
  rfl
theorem flat_ints (e : TypeId) (l : List Int) : FlatO (.row e 1 (intc l)) := .row _ _ _ fun dt h => by
  obtain ⟨n, _, rfl⟩ := List.mem_map.1 h
  exact ⟨_, rfl⟩
theorem flat_bools (e : TypeId) (l : List Bool) : FlatO (.row e 1 (boolc l)) := .row _ _ _ fun dt h => by
  obtain ⟨n, _, rfl⟩ := List.mem_map.1 h
  exact ⟨_, rfl⟩
theorem flat_pairs' : ∀ (l : List (Int × Int)), ∀ dt ∈ pairc l, ∃ v, dt = .val v
  | [], dt, h => by cases h
  | p :: r, dt, h => by
    simp only [pairc, List.mem_cons] at h
    rcases h with rfl | rfl | h
    · exact ⟨_, rfl⟩
    · exact ⟨_, rfl⟩
    · exact flat_pairs' r dt h
theorem flat_pairs (e : TypeId) (l : List (Int × Int)) : FlatO (.row e 2 (pairc l)) := .row _ _ _ (flat_pairs' l)

section
variable {P : Program} {k : Nat} {cx : Cx k} {ops : Array Oper} {Q : Exit → St → Prop} {st : St} {rest : List Oper} {d : Option Tmp} {ty : TypeId} {pos : String} {af : Array Edge} {g : Option (Nat × Bool)}

/-! An element of a slice that is read: its number is i. -/
theorem Q_ix_ints {x ix : Operand} {T e : TypeId} {l : List Int} {i : Int} {o : Nat} (hx : st.ev x = ints l) (hi : st.ev ix = .val (.int .i64 i)) (ho : i = (o : Int)) (ht : SlT P T e 1) (h : o < l.length) :
    QOp P ⟨d, .indexAddr T x ix, ty, pos, af, g⟩ st (.rpt (intc l) o) := by
  have := Q_index_ro (P := P) (d := d) (ty := ty) (pos := pos) (af := af) (g := g) (x := x) (ix := ix) hx hi ht (intc_len l) (by decide) ⟨by omega, by omega⟩
  rw [show i.toNat * 1 = o by omega] at this
  exact this
theorem Q_ix_rows {x ix : Operand} {T e : TypeId} {l : List (List Int)} {i : Int} {o : Nat} (hx : st.ev x = rows l) (hi : st.ev ix = .val (.int .i64 i)) (ho : i = (o : Int)) (ht : SlT P T e 1) (h : o < l.length) :
    QOp P ⟨d, .indexAddr T x ix, ty, pos, af, g⟩ st (.rpt (rowc l) o) := by
  have := Q_index_ro (P := P) (d := d) (ty := ty) (pos := pos) (af := af) (g := g) (x := x) (ix := ix) hx hi ht (rowc_len l) (by decide) ⟨by omega, by omega⟩
  rw [show i.toNat * 1 = o by omega] at this
  exact this
theorem Q_ix_pairs {x ix : Operand} {T e : TypeId} {l : List (Int × Int)} {i : Int} {o : Nat} (hx : st.ev x = pairs l) (hi : st.ev ix = .val (.int .i64 i)) (ho : i = (o : Int)) (ht : SlT P T e 2) (h : o < l.length) :
    QOp P ⟨d, .indexAddr T x ix, ty, pos, af, g⟩ st (.rpt (pairc l) (o * 2)) := by
  have := Q_index_ro (P := P) (d := d) (ty := ty) (pos := pos) (af := af) (g := g) (x := x) (ix := ix) hx hi ht (pairc_len l) (by decide) ⟨by omega, by omega⟩
  rw [show i.toNat * 2 = o * 2 by omega] at this
  exact this
theorem Q_ix_own {x ix : Operand} {T e e' : TypeId} {l : List Int} {id : Nat} {i : Int} {o : Nat} (hx : st.ev x = .own id) (hob : st.objs[id]? = some (.row e' 1 (intc l))) (hi : st.ev ix = .val (.int .i64 i)) (ho : i = (o : Int)) (ht : SlT P T e 1) (h : o < l.length) :
    QOp P ⟨d, .indexAddr T x ix, ty, pos, af, g⟩ st (.ept id o) := by
  have := Q_index_own (P := P) (d := d) (ty := ty) (pos := pos) (af := af) (g := g) (x := x) (ix := ix) hx hob hi ht (intc_len l) (by decide) ⟨by omega, by omega⟩
  rw [show i.toNat * 1 = o by omega] at this
  exact this
theorem Q_ix_ownb {x ix : Operand} {T e e' : TypeId} {l : List Bool} {id : Nat} {i : Int} {o : Nat} (hx : st.ev x = .own id) (hob : st.objs[id]? = some (.row e' 1 (boolc l))) (hi : st.ev ix = .val (.int .i64 i)) (ho : i = (o : Int)) (ht : SlT P T e 1) (h : o < l.length) :
    QOp P ⟨d, .indexAddr T x ix, ty, pos, af, g⟩ st (.ept id o) := by
  have := Q_index_own (P := P) (d := d) (ty := ty) (pos := pos) (af := af) (g := g) (x := x) (ix := ix) hx hob hi ht (boolc_len l) (by decide) ⟨by omega, by omega⟩
  rw [show i.toNat * 1 = o by omega] at this
  exact this
theorem Q_ix_arr {x ix : Operand} {T e : TypeId} {sz n id o : Nat} {i : Int} {j : Nat} (hx : st.ev x = .ptr id o) (hi : st.ev ix = .val (.int .i64 i)) (hj : i = (j : Int)) (ht : ArT P T n e sz) (h : j < n) :
    QOp P ⟨d, .indexAddr T x ix, ty, pos, af, g⟩ st (.ptr id (o + j * sz)) := by
  have := Q_index_arr (P := P) (d := d) (ty := ty) (pos := pos) (af := af) (g := g) (x := x) (ix := ix) hx hi ht ⟨by omega, by omega⟩
  rw [show i.toNat = j by omega] at this
  exact this
theorem Q_ix_arp {x ix : Operand} {T e : TypeId} {sz n : Nat} {cs : List Dat} {o : Nat} {i : Int} {j : Nat} (hx : st.ev x = .rpt cs o) (hi : st.ev ix = .val (.int .i64 i)) (hj : i = (j : Int)) (ht : ArT P T n e sz) (h : j < n) :
    QOp P ⟨d, .indexAddr T x ix, ty, pos, af, g⟩ st (.rpt cs (o + j * sz)) := by
  have := Q_index_arr_rpt (P := P) (d := d) (ty := ty) (pos := pos) (af := af) (g := g) (x := x) (ix := ix) hx hi ht ⟨by omega, by omega⟩
  rw [show i.toNat = j by omega] at this
  exact this

/-! What stands there. -/
theorem Q_ld_ints {x : Operand} {T : TypeId} {l : List Int} {o : Nat} (hx : st.ev x = .rpt (intc l) o) (h : o < l.length) (ht : ScT P T) : QOp P ⟨d, .load T x, ty, pos, af, g⟩ st (.val (.int .i64 (l.getD o 0))) :=
  Q_load_rpt hx (intc_get h) ht
theorem Q_ld_rows {x : Operand} {T : TypeId} {l : List (List Int)} {o : Nat} (hx : st.ev x = .rpt (rowc l) o) (h : o < l.length) (ht : ScT P T) : QOp P ⟨d, .load T x, ty, pos, af, g⟩ st (ints (l.getD o [])) :=
  Q_load_rpt hx (rowc_get h) ht
theorem Q_ld_pair1 {x : Operand} {T : TypeId} {l : List (Int × Int)} {o : Nat} (hx : st.ev x = .rpt (pairc l) (o * 2)) (h : o < l.length) (ht : ScT P T) : QOp P ⟨d, .load T x, ty, pos, af, g⟩ st (.val (.int .i64 (l.getD o (0, 0)).1)) :=
  Q_load_rpt hx (pairc_get h).1 ht
theorem Q_ld_pair2 {x : Operand} {T : TypeId} {l : List (Int × Int)} {o : Nat} (hx : st.ev x = .rpt (pairc l) (o * 2 + 1)) (h : o < l.length) (ht : ScT P T) : QOp P ⟨d, .load T x, ty, pos, af, g⟩ st (.val (.int .i64 (l.getD o (0, 0)).2)) :=
  Q_load_rpt hx (pairc_get h).2 ht
theorem Q_ld_pair {x : Operand} {T : TypeId} {l : List (Int × Int)} {o : Nat} (hx : st.ev x = .rpt (pairc l) (o * 2)) (h : o < l.length) (ht : AgT P T 2) :
    QOp P ⟨d, .load T x, ty, pos, af, g⟩ st (.agg [.val (.int .i64 (l.getD o (0, 0)).1), .val (.int .i64 (l.getD o (0, 0)).2)]) :=
  Q_load_rpt_agg (ds := [.val (.int .i64 (l.getD o (0, 0)).1), .val (.int .i64 (l.getD o (0, 0)).2)]) hx (fun j dt hj => by
    match j, hj with
    | 0, hj => simp only [List.getElem?_cons_zero, Option.some.injEq] at hj; rw [← hj]; exact (pairc_get h).1
    | 1, hj => simp only [List.getElem?_cons_succ, List.getElem?_cons_zero, Option.some.injEq] at hj; rw [← hj]; exact (pairc_get h).2
    | j + 2, hj => simp at hj) rfl ht
theorem Q_ld_own {x : Operand} {T e : TypeId} {l : List Int} {id o : Nat} (hx : st.ev x = .ept id o) (hob : st.objs[id]? = some (.row e 1 (intc l))) (h : o < l.length) (ht : ScT P T) : QOp P ⟨d, .load T x, ty, pos, af, g⟩ st (.val (.int .i64 (l.getD o 0))) :=
  Q_load_ept hx hob (intc_get h) ht
theorem Q_ld_ownb {x : Operand} {T e : TypeId} {l : List Bool} {id o : Nat} (hx : st.ev x = .ept id o) (hob : st.objs[id]? = some (.row e 1 (boolc l))) (h : o < l.length) (ht : ScT P T) : QOp P ⟨d, .load T x, ty, pos, af, g⟩ st (.val (.bool (l.getD o false))) :=
  Q_load_ept hx hob (boolc_get h) ht

theorem Q_len_ints {x : Operand} {T e : TypeId} {l : List Int} (hx : st.ev x = ints l) (ht : SlT P T e 1) : QOp P ⟨d, .call ⟨.builtin .len, #[x], #[T]⟩, ty, pos, af, g⟩ st (.val (.int .i64 (l.length : Int))) :=
  Q_len_ro rfl hx rfl ht (intc_len l) (by decide)
theorem Q_len_rows {x : Operand} {T e : TypeId} {l : List (List Int)} (hx : st.ev x = rows l) (ht : SlT P T e 1) : QOp P ⟨d, .call ⟨.builtin .len, #[x], #[T]⟩, ty, pos, af, g⟩ st (.val (.int .i64 (l.length : Int))) :=
  Q_len_ro rfl hx rfl ht (rowc_len l) (by decide)
theorem Q_len_pairs {x : Operand} {T e : TypeId} {l : List (Int × Int)} (hx : st.ev x = pairs l) (ht : SlT P T e 2) : QOp P ⟨d, .call ⟨.builtin .len, #[x], #[T]⟩, ty, pos, af, g⟩ st (.val (.int .i64 (l.length : Int))) :=
  Q_len_ro rfl hx rfl ht (pairc_len l) (by decide)
theorem Q_len_own' {x : Operand} {T e e' : TypeId} {l : List Int} {id : Nat} (hx : st.ev x = .own id) (hob : st.objs[id]? = some (.row e' 1 (intc l))) (ht : SlT P T e 1) : QOp P ⟨d, .call ⟨.builtin .len, #[x], #[T]⟩, ty, pos, af, g⟩ st (.val (.int .i64 (l.length : Int))) :=
  Q_len_own rfl hx hob rfl ht (intc_len l) (by decide)
theorem Q_len_ownp {x : Operand} {T e e' : TypeId} {l : List (Int × Int)} {id : Nat} (hx : st.ev x = .own id) (hob : st.objs[id]? = some (.row e' 2 (pairc l))) (ht : SlT P T e 2) : QOp P ⟨d, .call ⟨.builtin .len, #[x], #[T]⟩, ty, pos, af, g⟩ st (.val (.int .i64 (l.length : Int))) :=
  Q_len_own rfl hx hob rfl ht (pairc_len l) (by decide)
theorem Q_len_nil' {x : Operand} {T e : TypeId} {sz : Nat} (hx : st.ev x = .val (.slice none 0 0)) (ht : SlT P T e sz) : QOp P ⟨d, .call ⟨.builtin .len, #[x], #[T]⟩, ty, pos, af, g⟩ st (.val (.int .i64 0)) :=
  Q_len_nil rfl hx rfl ht
end

section
variable {P : Program} {k : Nat} {cx : Cx k} {ops : Array Oper} {Q : Exit → St → Prop} {st : St} {rest : List Oper} {d : Tmp} {ty : TypeId} {pos : String} {af : Array Edge}

theorem l_st_ints [Zs] {T e : TypeId} {x y : Operand} {id o : Nat} {l : List Int} {v : Int} (hx : st.ev x = .ept id o) (hob : st.objs[id]? = some (.row e 1 (intc l))) (hy : st.ev y = .val (.int .i64 v)) (ht : SzOf P T 1) (h : o < l.length)
    (hk : aL P cx ops Q rest (st.set id (.row e 1 (intc (l.set o v))))) : aL P cx ops Q (⟨none, .store T x y, ty, pos, af, none⟩ :: rest) st :=
  l_store_ept (dt := .val (.int .i64 v)) hx hob (by rw [intc_len']; exact h) hy rfl ht (by rw [intc_set]; exact hk)
theorem l_st_bools [Zs] {T e : TypeId} {x y : Operand} {id o : Nat} {l : List Bool} {v : Bool} (hx : st.ev x = .ept id o) (hob : st.objs[id]? = some (.row e 1 (boolc l))) (hy : st.ev y = .val (.bool v)) (ht : SzOf P T 1) (h : o < l.length)
    (hk : aL P cx ops Q rest (st.set id (.row e 1 (boolc (l.set o v))))) : aL P cx ops Q (⟨none, .store T x y, ty, pos, af, none⟩ :: rest) st :=
  l_store_ept (dt := .val (.bool v)) hx hob (by rw [boolc_len, Nat.mul_one]; exact h) hy rfl ht (by rw [boolc_set]; exact hk)

theorem l_mk_ints [Zs] {T e : TypeId} {x y : Operand} {n : Int} {o : Nat} (hx : st.ev x = .val (.int .i64 n)) (hy : st.ev y = .val (.int .i64 n)) (ho : n = (o : Int)) (ht : SlT P T e 1) (hm : MkT P e (.int .i64 0) 1 8) (hbig : o ≤ 10000000000) (hd : Nat.blt d st.n = true)
    (hk : aL P cx ops Q rest ((st.add (.row e 1 (intc (List.replicate o 0)))).put d (.own st.objs.length))) : aL P cx ops Q (⟨some d, .makeSlice T x y, ty, pos, af, none⟩ :: rest) st :=
  l_make (z0 := .int .i64 0) (dt := .val (.int .i64 0)) hx hy ht hm (by omega) (by omega) (by decide) rfl (by decide) (fun _ _ => .val _) hd (by rw [intc_rep, show n.toNat = o by omega]; exact hk)
theorem l_mk_bools [Zs] {T e : TypeId} {x y : Operand} {n : Int} {o : Nat} (hx : st.ev x = .val (.int .i64 n)) (hy : st.ev y = .val (.int .i64 n)) (ho : n = (o : Int)) (ht : SlT P T e 1) (hm : MkT P e (.bool false) 1 1) (hbig : o ≤ 10000000000) (hd : Nat.blt d st.n = true)
    (hk : aL P cx ops Q rest ((st.add (.row e 1 (boolc (List.replicate o false)))).put d (.own st.objs.length))) : aL P cx ops Q (⟨some d, .makeSlice T x y, ty, pos, af, none⟩ :: rest) st :=
  l_make (z0 := .bool false) (dt := .val (.bool false)) hx hy ht hm (by omega) (by omega) (by decide) rfl (by decide) (fun _ _ => .val _) hd (by
    rw [show List.replicate (n.toNat * 1) (Dat.val (.bool false)) = boolc (List.replicate o false) by simp [boolc]; congr 1; omega]; exact hk)

/-- append(s, x), s an own row of numbers; the one number lies in an own row of its own. -/
theorem l_ap_ints [Zs] {T e : TypeId} {x y : Operand} {id id2 : Nat} {l r : List Int} {e2 : TypeId} (hx : st.ev x = .own id) (hob : st.objs[id]? = some (.row e 1 (intc l))) (hy : st.ev y = .own id2) (hob2 : st.objs[id2]? = some (.row e2 1 (intc r))) (ht : SlT P T e 1) (hm : MkT P e (.int .i64 0) 1 8)
    (hbig : l.length + r.length ≤ 10000000000) (hd : Nat.blt d st.n = true)
    (hk : aL P cx ops Q rest (((st.set id .gone).add (.row e 1 (intc (l ++ r)))).put d (.own st.objs.length))) : aL P cx ops Q (⟨some d, .call ⟨.builtin .append, #[x, y], #[T, T]⟩, ty, pos, af, none⟩ :: rest) st :=
  l_append (cs := intc l) (cs2 := intc r) rfl rfl hx hob (.inr (.inl ⟨id2, e2, hy, hob2⟩)) ht hm rfl (intc_len l) (intc_len r) (by decide) (intc_one r) (by decide) (by omega) hd (by rw [intc_app]; exact hk)

/-- []int{x, y, ..}. -/
def Ints (st : St) : List Operand → List Int → Prop
  | [], [] => True
  | x :: r, n :: l => st.ev x = .val (.int .i64 n) ∧ Ints st r l
  | _, _ => False
theorem ints_part : ∀ {xs : List Operand} {l : List Int}, Ints st xs l → PartD st 1 xs (intc l)
  | [], [], _ => rfl
  | x :: r, n :: l, h => ⟨[.val (.int .i64 n)], intc l, by rw [h.1]; rfl, rfl, rfl, ints_part h.2, rfl⟩
theorem l_lit_ints [Zs] {T e : TypeId} {n : Nat} {parts : Array (Nat × Operand)} {xs : List Operand} {l : List Int} (hp : parts = (enumP 0 xs).toArray) (hn : xs.length = n) (ht : SlT P T e 1) (hm : MkT P e (.int .i64 0) 1 8) (hbig : Nat.ble (n * 1) 16777216 = true)
    (hl : Ints st xs l) (hd : Nat.blt d st.n = true) (hk : aL P cx ops Q rest ((st.add (.row e 1 (intc l))).put d (.own st.objs.length))) : aL P cx ops Q (⟨some d, .buildSlice T n parts, ty, pos, af, none⟩ :: rest) st :=
  l_lit hp hn ht hm (by decide) hbig (ints_part hl) hd hk
end
end Go.Proofs.Ythchhaaplimafaa
