import Derived.Test.YtdbngpkbamhbeaaEngZzg
import Derived.Test.YtdbngpkbamhbeaaEngT
import Derived.StringKeys
import Derived.Laws.IdiomStrings
set_option linter.unusedSimpArgs false
set_option linter.unusedVariables false
set_option linter.unusedSectionVars false
namespace Go.Proofs.Ytdbngpkbamhbeaa
open Go.RowKit
def bytc (l : List Nat) : List Dat := l.map fun (b : Nat) => .val (.int .u8 (b : Int))
theorem bytc_len (l : List Nat) : (bytc l).length = l.length * 1 := by simp [bytc]
theorem bytc_set (l : List Nat) (o v : Nat) : bytc (l.set o v) = (bytc l).set o (.val (.int .u8 (v : Int))) := by simp [bytc, List.map_set]
section
variable {P : Program} {k : Nat} {cx : Cx k} {ops : Array Oper} {Q : Exit → St → Prop} {rest : List Oper} {ty : TypeId} {pos : String} {af : Array Edge} {n : Nat} {vars : List (Nat × AV)} {objs objs' : List AO} {d m : Nat}
theorem w_mk_bytes [Zs] {T e : TypeId} {x y : Operand} {i : Int} {o : Nat} (hx : (⟨n, vars, objs⟩ : St).ev x = .val (.int .i64 i)) (hy : (⟨n, vars, objs⟩ : St).ev y = .val (.int .i64 i)) (hi : i = (o : Int)) (ht : SlT P T e 1) (hmk : MkT P e (.int .u8 0) 1 1) (hbig : o ≤ 10000000000)
    (ho : objs ++ [.row e 1 (bytc (List.replicate o 0))] = objs') (hm : objs.length = m) (hd : Nat.blt d n = true) (hk : aL P cx ops Q rest ⟨n, (d, .own m) :: vars, objs'⟩) : aL P cx ops Q (⟨some d, .makeSlice T x y, ty, pos, af, none⟩ :: rest) ⟨n, vars, objs⟩ := by
  subst ho; subst hm
  refine l_make (z0 := .int .u8 0) (dt := .val (.int .u8 0)) hx hy ht hmk (by omega) (by omega) (by decide) rfl (by decide) (fun _ _ => .val _) hd ?_
  rw [show List.replicate (i.toNat * 1) (Dat.val (.int .u8 0)) = bytc (List.replicate o 0) by simp [bytc]; omega]
  exact hk
theorem w_st_byte [Zs] {T e : TypeId} {x y : Operand} {id o v : Nat} {l : List Nat} (hx : (⟨n, vars, objs⟩ : St).ev x = .ept id o) (hob : objs[id]? = some (.row e 1 (bytc l))) (hy : (⟨n, vars, objs⟩ : St).ev y = .val (.int .u8 (v : Int))) (ht : SzOf P T 1) (h : o < l.length)
    (ho : objs.set id (.row e 1 (bytc (l.set o v))) = objs') (hk : aL P cx ops Q rest ⟨n, vars, objs'⟩) : aL P cx ops Q (⟨none, .store T x y, ty, pos, af, none⟩ :: rest) ⟨n, vars, objs⟩ := by
  subst ho
  exact l_store_ept (dt := .val (.int .u8 (v : Int))) hx hob (by rw [bytc_len, Nat.mul_one]; exact h) hy rfl ht (by rw [bytc_set] at hk; exact hk)
end
/-- A string of bytes. -/
def strK (l : List Nat) : Value := .string ⟨(l.map UInt8.ofNat).toArray⟩
theorem u8_back {v : Nat} (h : v < 256) : ((UInt8.ofNat v).toNat : Int) = (v : Int) := by
  rw [UInt8.toNat_ofNat']
  rw [Nat.mod_eq_of_lt h]
theorem strK_inj {a b : List Nat} (ha : ∀ x ∈ a, x < 256) (hb : ∀ x ∈ b, x < 256) (h : strK a = strK b) : a = b := by
  unfold strK at h
  simp only [Value.string.injEq, ByteArray.mk.injEq] at h
  have h2 : a.map UInt8.ofNat = b.map UInt8.ofNat := by simpa using h
  have key : ∀ l : List Nat, (∀ x ∈ l, x < 256) → (l.map UInt8.ofNat).map UInt8.toNat = l := fun l hl => by
    rw [List.map_map]
    conv => rhs; rw [← List.map_id l]
    refine List.map_congr_left fun x hx => ?_
    have := u8_back (hl x hx)
    simp only [Function.comp, id]
    omega
  rw [← key a ha, ← key b hb, h2]
theorem strK_keyE {P : Program} {t kt et : TypeId} (h : P.underlying t = some (.map kt et)) (hk : P.underlying kt = some .string) (hm : MkT P et (.int .i64 0) 1 8) : KeyE P t strK fun l => l.length ≤ 1000 ∧ ∀ x ∈ l, x < 256 :=
  ⟨kt, et, h, hm, WideMaps.string_law hk, fun l hl => ⟨_, WideMaps.keyOf_string_mk hk (by
    show (l.map UInt8.ofNat).toArray.size ≤ _
    have := hl.1
    simp [maxLen]; omega)⟩, fun a b ha hb e => strK_inj ha.2 hb.2 e⟩
section
variable {P : Program} {st : St} {d : Option Tmp} {ty : TypeId} {pos : String} {af : Array Edge} {g : Option (Nat × Bool)}
theorem Q_ix_ownY {x ix : Operand} {T e e' : TypeId} {l : List Nat} {id : Nat} {i : Int} {o : Nat} (hx : st.ev x = .own id) (hob : st.objs[id]? = some (.row e' 1 (bytc l))) (hi : st.ev ix = .val (.int .i64 i)) (ho : i = (o : Int)) (ht : SlT P T e 1) (h : o < l.length) :
    QOp P ⟨d, .indexAddr T x ix, ty, pos, af, g⟩ st (.ept id o) := by
  have := Q_index_own (P := P) (d := d) (ty := ty) (pos := pos) (af := af) (g := g) (x := x) (ix := ix) hx hob hi ht (bytc_len l) (by decide) ⟨by omega, by omega⟩
  rw [show i.toNat * 1 = o by omega] at this
  exact this
/-- string(b), b an own row of bytes. -/
theorem Q_str {x : Operand} {S T e e' : TypeId} {l : List Nat} {id : Nat} (hx : st.ev x = .own id) (hob : st.objs[id]? = some (.row e' 1 (bytc l))) (hS : P.underlying S = some (.slice e)) (he : P.underlying e = some (.int .u8)) (hT : P.underlying T = some .string) (h0 : 0 < l.length) (hb : ∀ x ∈ l, x < 256) :
    QOp P ⟨d, .convert S T x, ty, pos, af, g⟩ st (.val (strK l)) :=
  .run fun ρ w a hr => by
    have h' := hr.ev x
    rw [hx] at h'
    obtain ⟨l', hl⟩ := h'.own_inv
    obtain ⟨hρ, hrow⟩ := row_cells hr.good hob h'
    rcases hrow with ⟨h1, h2⟩ | ⟨b', n', cap', h1, h2, h3, _, h4⟩
    · have := bytc_len l
      rw [h2, List.length_nil] at this
      omega
    · refine ⟨strK l, .val _, fun w1 hw => ?_⟩
      have hn : n' = l.length := by rw [bytc_len] at h2; omega
      have hlen : (l.map UInt8.ofNat).length = l.length := List.length_map _
      have := run_convert_bytes_back (P := P) w1 S T e ⟨b', 0, none⟩ cap' (l.map UInt8.ofNat) hS he hT fun j hj => by
        have hj' : j < l.length := by rwa [hlen] at hj
        have hd : (bytc l)[j]? = some (.val (.int .u8 ((l[j] : Nat) : Int))) := by simp [bytc, hj']
        obtain ⟨v, hv, hrd⟩ := h4 j _ hd
        cases hrd
        have hc := hw.cell (p := ⟨b', j, none⟩) h3
        rw [hv] at hc
        simp only [List.getElem_map]
        rw [u8_back (hb _ (List.getElem_mem hj'))]
        have ea : (⟨b', 0, none⟩ : Addr).add j = ⟨b', j, none⟩ := by
          unfold Addr.add
          split
          · rename_i h0; subst h0; rfl
          · simp
        rw [ea]
        exact hc
      rw [hlen, ← hn] at this
      rw [hn] at this
      simp only [execOp, h1, hn]
      simp [this, strK]
/-! An own row of rows. -/
theorem Q_len_ownR {x : Operand} {T e e' : TypeId} {l : List (List Int)} {id : Nat} (hx : st.ev x = .own id) (hob : st.objs[id]? = some (.row e' 1 (rowc l))) (ht : SlT P T e 1) : QOp P ⟨d, .call ⟨.builtin .len, #[x], #[T]⟩, ty, pos, af, g⟩ st (.val (.int .i64 (l.length : Int))) :=
  Q_len_own rfl hx hob rfl ht (rowc_len l) (by decide)
theorem Q_ix_ownR {x ix : Operand} {T e e' : TypeId} {l : List (List Int)} {id : Nat} {i : Int} {o : Nat} (hx : st.ev x = .own id) (hob : st.objs[id]? = some (.row e' 1 (rowc l))) (hi : st.ev ix = .val (.int .i64 i)) (ho : i = (o : Int)) (ht : SlT P T e 1) (h : o < l.length) :
    QOp P ⟨d, .indexAddr T x ix, ty, pos, af, g⟩ st (.ept id o) := by
  have := Q_index_own (P := P) (d := d) (ty := ty) (pos := pos) (af := af) (g := g) (x := x) (ix := ix) hx hob hi ht (rowc_len l) (by decide) ⟨by omega, by omega⟩
  rw [show i.toNat * 1 = o by omega] at this
  exact this
theorem Q_ld_ownR {x : Operand} {T e : TypeId} {l : List (List Int)} {id o : Nat} (hx : st.ev x = .ept id o) (hob : st.objs[id]? = some (.row e 1 (rowc l))) (h : o < l.length) (ht : ScT P T) :
    QOp P ⟨d, .load T x, ty, pos, af, g⟩ st (ints (l.getD o [])) :=
  Q_load_ept (P := P) (d := d) (ty := ty) (pos := pos) (af := af) (g := g) (dt := .sl 1 (intc (l.getD o []))) hx hob (by
    unfold rowc
    rw [List.getElem?_map, List.getElem?_eq_getElem h, List.getD_eq_getElem?_getD, List.getElem?_eq_getElem h]; rfl) ht
end
end Go.Proofs.Ytdbngpkbamhbeaa
