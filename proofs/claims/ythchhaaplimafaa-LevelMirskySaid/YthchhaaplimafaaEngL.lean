/- Numbers from nought on, as sets and as counts. -/
import Derived.Test.YthchhaaplimafaaEngK
set_option linter.unusedSimpArgs false
set_option linter.unusedVariables false
namespace Go.Proofs.Ythchhaaplimafaa
open Go.RowKit

/-- A list of numbers from nought on. -/
def nl (l : List Nat) : List Int := l.map fun (n : Nat) => (n : Int)
theorem nat_in {q : Nat} (h : q ≤ 9223372036854775807) : -9223372036854775808 ≤ (q : Int) ∧ (q : Int) ≤ 9223372036854775807 := by omega
theorem nl_len (l : List Nat) : (nl l).length = l.length := by simp [nl]
theorem nl_get (l : List Nat) (k : Nat) : (nl l).getD k 0 = ((l.getD k 0 : Nat) : Int) := by
  simp only [nl, List.getD_eq_getElem?_getD, List.getElem?_map]
  cases l[k]? <;> simp
theorem nl_set (l : List Nat) (k v : Nat) : (nl l).set k (v : Int) = nl (l.set k v) := by simp [nl, List.map_set]
theorem nl_app (l r : List Nat) : nl l ++ nl r = nl (l ++ r) := by simp [nl]
theorem nl_rep (n v : Nat) : List.replicate n (v : Int) = nl (List.replicate n v) := by simp [nl]
theorem nl_of {l : List Int} (h : ∀ x ∈ l, 0 ≤ x) : l = nl (l.map Int.toNat) := by
  apply List.ext_getElem
  · simp [nl]
  · intro i h1 h2
    simp only [nl, List.getElem_map]
    have := h l[i] (List.getElem_mem _)
    omega
theorem nl_inj {a b : List Nat} (h : nl a = nl b) : a = b := by
  have h2 : (nl a).map Int.toNat = (nl b).map Int.toNat := by rw [h]
  have h3 : ∀ l : List Nat, (nl l).map Int.toNat = l := by intro l; induction l with | nil => rfl | cons x l ih => simp only [nl, List.map_cons, Int.toNat_natCast] at ih ⊢; rw [ih]
  rwa [h3, h3] at h2

section
variable {P : Program} {st : St} {d : Option Tmp} {ty : TypeId} {pos : String} {af : Array Edge} {g : Option (Nat × Bool)} {T T' : TypeId} {x y : Operand} {m n : Nat}

theorem Q_ld_nats {l : List Nat} {o : Nat} (hx : st.ev x = .rpt (intc (nl l)) o) (h : o < l.length) (ht : ScT P T) : QOp P ⟨d, .load T x, ty, pos, af, g⟩ st (.val (.int .i64 ((l.getD o 0 : Nat) : Int))) := by
  rw [← nl_get]
  exact Q_ld_ints hx (by rw [nl_len]; exact h) ht
theorem Q_ix_nats {ix : Operand} {e : TypeId} {l : List Nat} {i : Int} {o : Nat} (hx : st.ev x = ints (nl l)) (hi : st.ev ix = .val (.int .i64 i)) (ho : i = (o : Int)) (ht : SlT P T e 1) (h : o < l.length) :
    QOp P ⟨d, .indexAddr T x ix, ty, pos, af, g⟩ st (.rpt (intc (nl l)) o) := Q_ix_ints hx hi ho ht (by rw [nl_len]; exact h)
theorem Q_len_nats {e : TypeId} {l : List Nat} (hx : st.ev x = ints (nl l)) (ht : SlT P T e 1) : QOp P ⟨d, .call ⟨.builtin .len, #[x], #[T]⟩, ty, pos, af, g⟩ st (.val (.int .i64 (l.length : Int))) := by
  rw [← nl_len]; exact Q_len_ints hx ht
theorem Q_ld_ownN {e : TypeId} {l : List Nat} {id o : Nat} (hx : st.ev x = .ept id o) (hob : st.objs[id]? = some (.row e 1 (intc (nl l)))) (h : o < l.length) (ht : ScT P T) : QOp P ⟨d, .load T x, ty, pos, af, g⟩ st (.val (.int .i64 ((l.getD o 0 : Nat) : Int))) := by
  rw [← nl_get]
  exact Q_ld_own hx hob (by rw [nl_len]; exact h) ht
theorem Q_ix_ownN {ix : Operand} {e e' : TypeId} {l : List Nat} {id : Nat} {i : Int} {o : Nat} (hx : st.ev x = .own id) (hob : st.objs[id]? = some (.row e' 1 (intc (nl l)))) (hi : st.ev ix = .val (.int .i64 i)) (ho : i = (o : Int)) (ht : SlT P T e 1) (h : o < l.length) :
    QOp P ⟨d, .indexAddr T x ix, ty, pos, af, g⟩ st (.ept id o) := Q_ix_own hx hob hi ho ht (by rw [nl_len]; exact h)
theorem Q_len_ownN {e e' : TypeId} {l : List Nat} {id : Nat} (hx : st.ev x = .own id) (hob : st.objs[id]? = some (.row e' 1 (intc (nl l)))) (ht : SlT P T e 1) : QOp P ⟨d, .call ⟨.builtin .len, #[x], #[T]⟩, ty, pos, af, g⟩ st (.val (.int .i64 (l.length : Int))) := by
  rw [← nl_len]; exact Q_len_own' hx hob ht

theorem Q_shrN (hx : st.ev x = .val (.int .i64 (m : Int))) (hy : st.ev y = .val (.int .i64 (n : Int))) (h : n < 64) : QOp P ⟨d, .binOp .shr T x y T', ty, pos, af, g⟩ st (.val (.int .i64 ((m / 2 ^ n : Nat) : Int))) := by
  have := Q_shr (P := P) (d := d) (ty := ty) (pos := pos) (af := af) (g := g) (T := T) (T' := T') hx hy ⟨by omega, by omega⟩
  rw [show ((m / 2 ^ n : Nat) : Int) = (m : Int) / 2 ^ (n : Int).toNat by simp]
  exact this
theorem Q_and1 (hx : st.ev x = .val (.int .i64 (m : Int))) (hy : st.ev y = .val (.int .i64 1)) : QOp P ⟨d, .binOp .and T x y T', ty, pos, af, g⟩ st (.val (.int .i64 ((m % 2 : Nat) : Int))) := Q_bin hx hy fun w => by
  have e : (BitVec.ofInt 64 (m : Int) &&& BitVec.ofInt 64 1).toNat = m % 2 := by
    have h1 : (BitVec.ofInt 64 (m : Int)) = BitVec.ofNat 64 m := by simp
    have h2 : (BitVec.ofInt 64 1).toNat = 1 := by decide
    rw [h1, BitVec.toNat_and, h2, BitVec.toNat_ofNat, Nat.and_one_is_mod]
    omega
  have hw : IntKind.i64.wrap ((m % 2 : Nat) : Int) = ((m % 2 : Nat) : Int) := IntWalk.i64_in _ (by omega)
  show Result.ok (Value.int .i64 (IntKind.i64.wrap ((BitVec.ofInt 64 (m : Int) &&& BitVec.ofInt 64 1).toNat : Int))) w = _
  rw [e, hw]
theorem Q_andN (hx : st.ev x = .val (.int .i64 (m : Int))) (hy : st.ev y = .val (.int .i64 (n : Int))) (h1 : m ≤ 9223372036854775807) (h2 : n ≤ 9223372036854775807) : QOp P ⟨d, .binOp .and T x y T', ty, pos, af, g⟩ st (.val (.int .i64 ((m &&& n : Nat) : Int))) := by
  have := Q_and (P := P) (d := d) (ty := ty) (pos := pos) (af := af) (g := g) (T := T) (T' := T') hx hy ⟨by omega, by omega⟩ ⟨by omega, by omega⟩
  simpa using this
theorem Q_orN (hx : st.ev x = .val (.int .i64 (m : Int))) (hy : st.ev y = .val (.int .i64 (n : Int))) (h1 : m ≤ 9223372036854775807) (h2 : n ≤ 9223372036854775807) : QOp P ⟨d, .binOp .or T x y T', ty, pos, af, g⟩ st (.val (.int .i64 ((m ||| n : Nat) : Int))) := by
  have := Q_or (P := P) (d := d) (ty := ty) (pos := pos) (af := af) (g := g) (T := T) (T' := T') hx hy ⟨by omega, by omega⟩ ⟨by omega, by omega⟩
  simpa using this
theorem Q_xorN (hx : st.ev x = .val (.int .i64 (m : Int))) (hy : st.ev y = .val (.int .i64 (n : Int))) (h1 : m ≤ 9223372036854775807) (h2 : n ≤ 9223372036854775807) : QOp P ⟨d, .binOp .xor T x y T', ty, pos, af, g⟩ st (.val (.int .i64 ((m ^^^ n : Nat) : Int))) := by
  have := Q_xor (P := P) (d := d) (ty := ty) (pos := pos) (af := af) (g := g) (T := T) (T' := T') hx hy ⟨by omega, by omega⟩ ⟨by omega, by omega⟩
  simpa using this
theorem Q_andNotN (hx : st.ev x = .val (.int .i64 (m : Int))) (hy : st.ev y = .val (.int .i64 (n : Int))) (h1 : m ≤ 9223372036854775807) (h2 : n ≤ 9223372036854775807) : QOp P ⟨d, .binOp .andNot T x y T', ty, pos, af, g⟩ st (.val (.int .i64 ((ndiff m n : Nat) : Int))) := by
  have := Q_andNot (P := P) (d := d) (ty := ty) (pos := pos) (af := af) (g := g) (T := T) (T' := T') hx hy ⟨by omega, by omega⟩ ⟨by omega, by omega⟩
  simpa using this
/-- 1 << n. -/
theorem Q_bit (hx : st.ev x = .val (.int .i64 1)) (hy : st.ev y = .val (.int .i64 (n : Int))) (h : n < 62) : QOp P ⟨d, .binOp .shl T x y T', ty, pos, af, g⟩ st (.val (.int .i64 ((2 ^ n : Nat) : Int))) := by
  have hlt : 2 ^ n ≤ 9223372036854775807 := by
    have h1 : 2 ^ n < 2 ^ 62 := Nat.pow_lt_pow_right (by decide) h
    omega
  have e : (1 : Int) * 2 ^ (n : Int).toNat = ((2 ^ n : Nat) : Int) := by simp
  have := Q_shl (P := P) (d := d) (ty := ty) (pos := pos) (af := af) (g := g) (T := T) (T' := T') hx hy ⟨by omega, by omega⟩ (by rw [e]; exact nat_in hlt)
  rw [e] at this
  exact this
theorem Q_shlN (hx : st.ev x = .val (.int .i64 (m : Int))) (hy : st.ev y = .val (.int .i64 (n : Int))) (h : n < 62) (hb : m * 2 ^ n ≤ 9223372036854775807) : QOp P ⟨d, .binOp .shl T x y T', ty, pos, af, g⟩ st (.val (.int .i64 ((m * 2 ^ n : Nat) : Int))) := by
  have e : (m : Int) * 2 ^ (n : Int).toNat = ((m * 2 ^ n : Nat) : Int) := by simp
  have := Q_shl (P := P) (d := d) (ty := ty) (pos := pos) (af := af) (g := g) (T := T) (T' := T') hx hy ⟨by omega, by omega⟩ (by rw [e]; exact nat_in hb)
  rw [e] at this
  exact this
theorem Q_quo2 (hx : st.ev x = .val (.int .i64 (m : Int))) (hy : st.ev y = .val (.int .i64 2)) (h : m ≤ 9223372036854775807) : QOp P ⟨d, .binOp .quo T x y T', ty, pos, af, g⟩ st (.val (.int .i64 ((m / 2 : Nat) : Int))) :=
  Q_quo hx hy ⟨by omega, by omega, by omega⟩
theorem Q_rem2 (hx : st.ev x = .val (.int .i64 (m : Int))) (hy : st.ev y = .val (.int .i64 2)) : QOp P ⟨d, .binOp .rem T x y T', ty, pos, af, g⟩ st (.val (.int .i64 ((m % 2 : Nat) : Int))) :=
  Q_rem hx hy ⟨by omega, by omega⟩
theorem Q_addN (hx : st.ev x = .val (.int .i64 (m : Int))) (hy : st.ev y = .val (.int .i64 (n : Int))) (h : m + n ≤ 9223372036854775807) : QOp P ⟨d, .binOp .add T x y T', ty, pos, af, g⟩ st (.val (.int .i64 ((m + n : Nat) : Int))) :=
  Q_add hx hy ⟨by omega, by omega⟩
end

section
variable {P : Program} {k : Nat} {cx : Cx k} {ops : Array Oper} {Q : Exit → St → Prop} {rest : List Oper} {ty : TypeId} {pos : String} {af : Array Edge} {n : Nat} {vars : List (Nat × AV)} {objs objs' : List AO} {K : St → Prop} {d m : Nat}
theorem w_st_nats [Zs] {T e : TypeId} {x y : Operand} {id o : Nat} {l : List Nat} {v : Nat} (hx : (⟨n, vars, objs⟩ : St).ev x = .ept id o) (hob : objs[id]? = some (.row e 1 (intc (nl l)))) (hy : (⟨n, vars, objs⟩ : St).ev y = .val (.int .i64 (v : Int))) (ht : SzOf P T 1) (h : o < l.length)
    (ho : objs.set id (.row e 1 (intc (nl (l.set o v)))) = objs') (hk : aL P cx ops Q rest ⟨n, vars, objs'⟩) : aL P cx ops Q (⟨none, .store T x y, ty, pos, af, none⟩ :: rest) ⟨n, vars, objs⟩ :=
  w_st_ints hx hob hy ht (by rw [nl_len]; exact h) (by rw [nl_set]; exact ho) hk
theorem w_mk_nats [Zs] {T e : TypeId} {x y : Operand} {i : Int} {o : Nat} (hx : (⟨n, vars, objs⟩ : St).ev x = .val (.int .i64 i)) (hy : (⟨n, vars, objs⟩ : St).ev y = .val (.int .i64 i)) (hi : i = (o : Int)) (ht : SlT P T e 1) (hmk : MkT P e (.int .i64 0) 1 8) (hbig : o ≤ 10000000000)
    (ho : objs ++ [.row e 1 (intc (nl (List.replicate o 0)))] = objs') (hm : objs.length = m) (hd : Nat.blt d n = true) (hk : aL P cx ops Q rest ⟨n, (d, .own m) :: vars, objs'⟩) : aL P cx ops Q (⟨some d, .makeSlice T x y, ty, pos, af, none⟩ :: rest) ⟨n, vars, objs⟩ :=
  w_mk_ints hx hy hi ht hmk hbig (by rw [← ho, ← nl_rep]; rfl) hm hd hk
theorem w_ap_nats [Zs] {T e : TypeId} {x y : Operand} {id id2 : Nat} {l r : List Nat} {e2 : TypeId} (hx : (⟨n, vars, objs⟩ : St).ev x = .own id) (hob : objs[id]? = some (.row e 1 (intc (nl l)))) (hy : (⟨n, vars, objs⟩ : St).ev y = .own id2) (hob2 : objs[id2]? = some (.row e2 1 (intc (nl r))))
    (ht : SlT P T e 1) (hmk : MkT P e (.int .i64 0) 1 8) (hbig : l.length + r.length ≤ 10000000000) (ho : objs.set id .gone ++ [.row e 1 (intc (nl (l ++ r)))] = objs') (hm : objs.length = m) (hd : Nat.blt d n = true)
    (hk : aL P cx ops Q rest ⟨n, (d, .own m) :: vars, objs'⟩) : aL P cx ops Q (⟨some d, .call ⟨.builtin .append, #[x, y], #[T, T]⟩, ty, pos, af, none⟩ :: rest) ⟨n, vars, objs⟩ :=
  w_ap_ints hx hob hy hob2 ht hmk (by rw [nl_len, nl_len]; exact hbig) (by rw [nl_app]; exact ho) hm hd hk
def Nats (st : St) : List Operand → List Nat → Prop
  | [], [] => True
  | x :: r, n :: l => st.ev x = .val (.int .i64 (n : Int)) ∧ Nats st r l
  | _, _ => False
theorem nats_ints {st : St} : ∀ {xs : List Operand} {l : List Nat}, Nats st xs l → Ints st xs (nl l)
  | [], [], _ => trivial
  | _ :: _, _ :: _, h => ⟨h.1, nats_ints h.2⟩
theorem w_lit_nats [Zs] {T e : TypeId} {len : Nat} {parts : Array (Nat × Operand)} {xs : List Operand} {l : List Nat} (hp : parts = (enumP 0 xs).toArray) (hn : xs.length = len) (ht : SlT P T e 1) (hmk : MkT P e (.int .i64 0) 1 8) (hbig : Nat.ble (len * 1) 16777216 = true)
    (hl : Nats ⟨n, vars, objs⟩ xs l) (ho : objs ++ [.row e 1 (intc (nl l))] = objs') (hm : objs.length = m) (hd : Nat.blt d n = true) (hk : aL P cx ops Q rest ⟨n, (d, .own m) :: vars, objs'⟩) :
    aL P cx ops Q (⟨some d, .buildSlice T len parts, ty, pos, af, none⟩ :: rest) ⟨n, vars, objs⟩ := w_lit_ints hp hn ht hmk hbig (nats_ints hl) ho hm hd hk
end

theorem getv_nil (t : Nat) : getv [] t = .any := rfl
/-- Of what is known, the slots that are named. -/
def keepv : List Nat → List (Nat × AV) → List (Nat × AV)
  | [], _ => []
  | t :: r, vs => (t, getv vs t) :: keepv r vs

section
variable {P : Program} {k : Nat} {cx : Cx k} {Q : Exit → St → Prop} {n : Nat} {vars : List (Nat × AV)} {objs : List AO}
/-- A loop: what the slots of keep hold stays; the others that live are told by mv, the objects by ob. -/
theorem w_loop [Zs] {c : Code} {X : Type} (keep : List Nat) {vars0 : List (Nat × AV)} (hv : keepv keep vars = vars0) (mv : X → List (Nat × AV)) (ob : X → List AO) (I : X → Prop) (μ : X → Nat) (x0 : X) (σ0 : List Nat) (h0 : I x0)
    (hle : St.le ⟨n, vars, objs⟩ ⟨n, mv x0 ++ vars0, ob x0⟩ σ0) (hσ : fixB k σ0 = true)
    (round : ∀ x, I x → aC P cx c (thenA (Hand (k := k) X (fun x => ⟨n, mv x ++ vars0, ob x⟩) I μ (μ x)) Q) ⟨n, mv x ++ vars0, ob x⟩) : aC P cx (.loop c) Q ⟨n, vars, objs⟩ :=
  have _ := hv
  a_loop (fun x => ⟨n, mv x ++ vars0, ob x⟩) I μ x0 σ0 h0 hle hσ round
theorem w_cut [Zs] {x y : Code} {X : Type} (keep : List Nat) {vars0 : List (Nat × AV)} (hv : keepv keep vars = vars0) (mv : X → List (Nat × AV)) (ob : X → List AO) (I : X → Prop)
    (h1 : aC P cx x (thenA (fun st => ∃ z σ, I z ∧ st.le ⟨n, mv z ++ vars0, ob z⟩ σ ∧ fixB k σ = true) Q) ⟨n, vars, objs⟩) (h2 : ∀ z, I z → aC P cx y Q ⟨n, mv z ++ vars0, ob z⟩) : aC P cx (.seq x y) Q ⟨n, vars, objs⟩ :=
  have _ := hv
  a_cut (fun z => ⟨n, mv z ++ vars0, ob z⟩) I h1 h2
end

theorem resV_tmp {P : Program} {st : St} {t : Nat} {av : AV} (h : st.get t = av) : ResV P st (.tmp t) av := h
theorem resV_cell {P : Program} {st : St} {t T : Nat} {id : Nat} {cells : List AV} (h : st.get t = .ptr id 0) (ho : st.objs[id]? = some (.box cells)) (ht : AgT P T cells.length) : ResV P st (.cell t T) (.agg cells) := ⟨id, cells, h, ho, .inl ⟨ht, rfl⟩⟩
theorem resV_cell1 {P : Program} {st : St} {t T : Nat} {id : Nat} {cells : List AV} {av : AV} (h : st.get t = .ptr id 0) (ho : st.objs[id]? = some (.box cells)) (ht : ScT P T) (hc : cells[0]? = some av) : ResV P st (.cell t T) av := ⟨id, cells, h, ho, .inr ⟨ht, hc⟩⟩
theorem Vw.val' {objs : List AO} {σ : List Nat} {v v' : Value} (h : v = v') : Vw objs σ (.val v) (.val v') := h ▸ .val v
theorem Vw.int' {objs : List AO} {σ : List Nat} {v v' : Int} (h : v = v') : Vw objs σ (.val (.int .i64 v)) (.val (.int .i64 v')) := h ▸ .val _
theorem Vw.bool' {objs : List AO} {σ : List Nat} {v v' : Bool} (h : v = v') : Vw objs σ (.val (.bool v)) (.val (.bool v')) := h ▸ .val _
theorem VwO.row' {objs : List AO} {σ : List Nat} {e : TypeId} {sz : Nat} {cs cs' : List Dat} (h : cs = cs') : VwO objs σ (.row e sz cs) (.row e sz cs') := h ▸ .row e sz cs
end Go.Proofs.Ythchhaaplimafaa
