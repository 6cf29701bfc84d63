import Derived.Test.YtpfldhaaiglgdaaDoorEngZv
import Derived.Test.YtpfldhaaiglgdaaDoorEngZd
import Derived.Test.YtpfldhaaiglgdaaDoorEngZe
import Derived.Test.YtpfldhaaiglgdaaDoorEngT
import Derived.Laws.Slices
set_option linter.unusedSimpArgs false
set_option linter.unusedVariables false
set_option linter.unusedSectionVars false
namespace Go.Proofs.YtpfldhaaiglgdaaDoor
open Go.RowKit
/-- The table: gB tells where a row lies, cC its room. -/
def mtV (n : Nat) (gB cC : Nat → Nat) (M : Nat → Nat → Bool) : List (Value × List Value) := (List.range n).map fun a => (.slice (some ⟨gB a, 0, none⟩) n (cC a), (List.range n).map fun b => .bool (M a b))
/-- The first i rows of it laid out. -/
def blV (n : Nat) (gB cC : Nat → Nat) (i : Nat) : List (Value × List Value) := (List.range n).map fun a => if a < i then (.slice (some ⟨gB a, 0, none⟩) n (cC a), (List.range n).map fun _ => .bool false) else (.slice none 0 0, [])
def updN (f : Nat → Nat) (i v : Nat) : Nat → Nat := fun x => if x = i then v else f x
def updM (M : Nat → Nat → Bool) (a c : Nat) (v : Bool) : Nat → Nat → Bool := fun x y => if x = a ∧ y = c then v else M x y
theorem mtV_len (n : Nat) (gB cC : Nat → Nat) (M : Nat → Nat → Bool) : (mtV n gB cC M).length = n := by simp [mtV]
theorem blV_len (n : Nat) (gB cC : Nat → Nat) (i : Nat) : (blV n gB cC i).length = n := by simp [blV]
theorem mtV_get {n : Nat} {gB cC : Nat → Nat} {M : Nat → Nat → Bool} {a : Nat} (h : a < n) : (mtV n gB cC M)[a]? = some (.slice (some ⟨gB a, 0, none⟩) n (cC a), (List.range n).map fun b => .bool (M a b)) := by
  simp [mtV, h]
theorem rowV_get {n : Nat} {f : Nat → Bool} {b : Nat} (h : b < n) : ((List.range n).map fun b => Value.bool (f b))[b]? = some (.bool (f b)) := by simp [h]
theorem mtV_set {n : Nat} {gB cC : Nat → Nat} {M : Nat → Nat → Bool} {a b : Nat} {v : Bool} (ha : a < n) (hb : b < n) :
    (mtV n gB cC M).set a (.slice (some ⟨gB a, 0, none⟩) n (cC a), ((List.range n).map fun b => Value.bool (M a b)).set b (.bool v)) = mtV n gB cC (updM M a b v) := by
  apply List.ext_getElem?
  intro x
  by_cases hx : x < n
  · rw [mtV_get hx]
    by_cases e : x = a
    · subst e
      rw [List.getElem?_set_self (by rw [mtV_len]; exact hx)]
      congr 2
      apply List.ext_getElem?
      intro y
      by_cases hy : y < n
      · rw [rowV_get hy]
        by_cases e2 : y = b
        · subst e2
          rw [List.getElem?_set_self (by simpa using hy)]
          simp [updM]
        · rw [List.getElem?_set_ne (Ne.symm e2), rowV_get hy]
          simp [updM, e2]
      · rw [List.getElem?_eq_none (by simp; omega), List.getElem?_eq_none (by simp; omega)]
    · rw [List.getElem?_set_ne (Ne.symm e), mtV_get hx]
      congr 2
      refine List.map_congr_left fun y _ => ?_
      simp [updM, e]
  · rw [List.getElem?_eq_none (by rw [List.length_set, mtV_len]; omega), List.getElem?_eq_none (by rw [mtV_len]; omega)]
theorem blV_zero (n : Nat) (gB cC : Nat → Nat) : List.replicate n ((Value.slice none 0 0, []) : Value × List Value) = blV n gB cC 0 := by
  apply List.ext_getElem?
  intro x
  by_cases hx : x < n <;> simp [blV, hx]
theorem blV_full (n : Nat) (gB cC : Nat → Nat) : blV n gB cC n = mtV n gB cC fun _ _ => false := by
  unfold blV mtV
  refine List.map_congr_left fun a ha => ?_
  rw [if_pos (List.mem_range.1 ha)]
theorem blV_set {n : Nat} {gB cC : Nat → Nat} {i g cap : Nat} (hi : i < n) : (blV n gB cC i).set i (.slice (some ⟨g, 0, none⟩) n cap, List.replicate n (.bool false)) = blV n (updN gB i g) (updN cC i cap) (i + 1) := by
  apply List.ext_getElem?
  intro x
  by_cases hx : x < n
  · by_cases e : x = i
    · subst e
      rw [List.getElem?_set_self (by rw [blV_len]; exact hx)]
      simp [blV, hx, updN]
      rw [List.map_const', List.length_range]
    · rw [List.getElem?_set_ne (Ne.symm e)]
      by_cases h2 : x < i
      · simp [blV, hx, updN, e, h2, show x < i + 1 by omega]
      · simp [blV, hx, h2, show ¬ x < i + 1 by omega]
  · rw [List.getElem?_eq_none (by rw [List.length_set, blV_len]; omega), List.getElem?_eq_none (by rw [blV_len]; omega)]
section
variable {P : Program} {k : Nat} {cx : Cx k} {ops : Array Oper} {Q : Exit → St → Prop} {rest : List Oper} {ty : TypeId} {pos : String} {af : Array Edge} {n : Nat} {vars : List (Nat × AV)} {objs objs' : List AO} {d m : Nat}
/-- make([][]bool, N). -/
theorem w_makeM [Zs] {T e : TypeId} (e' : TypeId) {x y : Operand} {N : Nat} (gB cC : Nat → Nat) (hx : (⟨n, vars, objs⟩ : St).ev x = .val (.int .i64 (N : Int))) (hy : (⟨n, vars, objs⟩ : St).ev y = .val (.int .i64 (N : Int))) (ht : SlT P T e 1) (hmk : MkT P e (.slice none 0 0) 1 24) (hN : N ≤ 10000000000)
    (ho : objs ++ [.mat e e' (blV N gB cC 0)] = objs') (hm : objs.length = m) (hd : Nat.blt d n = true) (hk : aL P cx ops Q rest ⟨n, (d, .own m) :: vars, objs'⟩) :
    aL P cx ops Q (⟨some d, .makeSlice T x y, ty, pos, af, none⟩ :: rest) ⟨n, vars, objs⟩ := by
  subst ho; subst hm
  rw [← blV_zero] at hk
  exact l_makeM hx hy ht hmk hN hd hk
/-- A row, laid into the table. -/
theorem w_stM [Zs] {T e e' : TypeId} {x y : Operand} {id kk i N : Nat} {gB cC : Nat → Nat} (hx : (⟨n, vars, objs⟩ : St).ev x = .ept id i) (hob : objs[id]? = some (.mat e e' (blV N gB cC i))) (hi : i < N) (hy : (⟨n, vars, objs⟩ : St).ev y = .own kk)
    (hok : objs[kk]? = some (.row e' 1 (boolc (List.replicate N false)))) (hne : Nat.beq kk id = false) (hk0 : Nat.ble k id = true) (ht : SzOf P T 1)
    (hk : ∀ gB cC, aL P cx ops Q rest ⟨n, vars, (objs.set kk .gone).set id (.mat e e' (blV N gB cC (i + 1)))⟩) : aL P cx ops Q (⟨none, .store T x y, ty, pos, af, none⟩ :: rest) ⟨n, vars, objs⟩ := by
  refine l_stM (r := List.replicate N (.bool false)) hx hob (by rw [blV_len]; exact hi) hy (by rw [hok]; simp [boolc]) (fun h => by subst h; simp at hne) (by simpa using hk0) ht fun u hu => ?_
  obtain ⟨g, cap, rfl⟩ := hu (by cases N with | zero => omega | succ N => simp)
  rw [List.length_replicate, blV_set hi]
  exact hk _ _
/-- A truth, stored into the table. -/
theorem w_stI [Zs] {T e e' : TypeId} {x y : Operand} {id a b N : Nat} {gB cC : Nat → Nat} {M : Nat → Nat → Bool} {v : Bool} (ha : a < N) (hb : b < N) (hx : (⟨n, vars, objs⟩ : St).ev x = .val (.pointer (some ⟨gB a, b, none⟩))) (hob : objs[id]? = some (.mat e e' (mtV N gB cC M)))
    (hy : (⟨n, vars, objs⟩ : St).ev y = .val (.bool v)) (ht : SzOf P T 1) (ho : objs.set id (.mat e e' (mtV N gB cC (updM M a b v))) = objs') (hk : aL P cx ops Q rest ⟨n, vars, objs'⟩) :
    aL P cx ops Q (⟨none, .store T x y, ty, pos, af, none⟩ :: rest) ⟨n, vars, objs⟩ := by
  subst ho
  refine l_stI (v := .bool v) hx hob (mtV_get ha) (by simpa using hb) hy rfl ht ?_
  rw [mtV_set ha hb]
  exact hk
end
section
variable {P : Program} {st : St} {d : Option Tmp} {ty : TypeId} {pos : String} {af : Array Edge} {g : Option (Nat × Bool)}
theorem Q_ix_bl {x ix : Operand} {T e e0 e' : TypeId} {id i N : Nat} {gB cC : Nat → Nat} {z : Int} {j : Nat} (hx : st.ev x = .own id) (ho : st.objs[id]? = some (.mat e0 e' (blV N gB cC j))) (hi : st.ev ix = .val (.int .i64 z)) (hz : z = (i : Int)) (ht : SlT P T e 1) (h : i < N) :
    QOp P ⟨d, .indexAddr T x ix, ty, pos, af, g⟩ st (.ept id i) := Q_ix_mat hx ho hi hz ht (by rw [blV_len]; exact h)
theorem Q_ix_mt {x ix : Operand} {T e e0 e' : TypeId} {id i N : Nat} {gB cC : Nat → Nat} {M : Nat → Nat → Bool} {z : Int} (hx : st.ev x = .own id) (ho : st.objs[id]? = some (.mat e0 e' (mtV N gB cC M))) (hi : st.ev ix = .val (.int .i64 z)) (hz : z = (i : Int)) (ht : SlT P T e 1) (h : i < N) :
    QOp P ⟨d, .indexAddr T x ix, ty, pos, af, g⟩ st (.ept id i) := Q_ix_mat hx ho hi hz ht (by rw [mtV_len]; exact h)
theorem Q_ld_mt {x : Operand} {T e0 e' : TypeId} {id a N : Nat} {gB cC : Nat → Nat} {M : Nat → Nat → Bool} (hx : st.ev x = .ept id a) (ho : st.objs[id]? = some (.mat e0 e' (mtV N gB cC M))) (h : a < N) (ht : ScT P T) :
    QOp P ⟨d, .load T x, ty, pos, af, g⟩ st (.val (.slice (some ⟨gB a, 0, none⟩) N (cC a))) := Q_ld_mat hx ho (mtV_get h) ht
theorem Q_ld_mb {x : Operand} {T e0 e' : TypeId} {id a b N : Nat} {gB cC : Nat → Nat} {M : Nat → Nat → Bool} (ho : st.objs[id]? = some (.mat e0 e' (mtV N gB cC M))) (ha : a < N) (hb : b < N) (hx : st.ev x = .val (.pointer (some ⟨gB a, b, none⟩))) (ht : ScT P T) :
    QOp P ⟨d, .load T x, ty, pos, af, g⟩ st (.val (.bool (M a b))) := Q_ld_in hx ho (mtV_get ha) (rowV_get hb) ht
/-- The table, only read. -/
def mtD (n : Nat) (M : Nat → Nat → Bool) : List Dat := (List.range n).map fun a => .sl 1 ((List.range n).map fun b => .val (.bool (M a b)))
theorem mtD_mtV (n : Nat) (gB cC : Nat → Nat) (M : Nat → Nat → Bool) : ((mtV n gB cC M).map fun r => Dat.sl 1 (r.2.map .val)) = mtD n M := by
  unfold mtV mtD
  rw [List.map_map]
  refine List.map_congr_left fun a _ => ?_
  show Dat.sl 1 (((List.range n).map fun b => Value.bool (M a b)).map .val) = _
  rw [List.map_map]; rfl
theorem Q_ix_mtD {x ix : Operand} {T e : TypeId} {i N : Nat} {M : Nat → Nat → Bool} {z : Int} (hx : st.ev x = .ro (.sl 1 (mtD N M))) (hi : st.ev ix = .val (.int .i64 z)) (hz : z = (i : Int)) (ht : SlT P T e 1) (h : i < N) :
    QOp P ⟨d, .indexAddr T x ix, ty, pos, af, g⟩ st (.rpt (mtD N M) i) := by
  have := Q_index_ro (P := P) (d := d) (ty := ty) (pos := pos) (af := af) (g := g) (x := x) (ix := ix) (n := N) hx hi ht (by simp [mtD]) (by decide) ⟨by omega, by omega⟩
  rw [show z.toNat * 1 = i by omega] at this
  exact this
theorem Q_ld_mtD {x : Operand} {T : TypeId} {i N : Nat} {M : Nat → Nat → Bool} (hx : st.ev x = .rpt (mtD N M) i) (h : i < N) (ht : ScT P T) : QOp P ⟨d, .load T x, ty, pos, af, g⟩ st (.ro (.sl 1 ((List.range N).map fun b => .val (.bool (M i b))))) :=
  Q_load_rpt hx (dt := .sl 1 ((List.range N).map fun b => .val (.bool (M i b)))) (by simp [mtD, h]) ht
theorem Q_ix_mbD {x ix : Operand} {T e : TypeId} {i N : Nat} {f : Nat → Bool} {z : Int} (hx : st.ev x = .ro (.sl 1 ((List.range N).map fun b => .val (.bool (f b))))) (hi : st.ev ix = .val (.int .i64 z)) (hz : z = (i : Int)) (ht : SlT P T e 1) (h : i < N) :
    QOp P ⟨d, .indexAddr T x ix, ty, pos, af, g⟩ st (.rpt ((List.range N).map fun b => .val (.bool (f b))) i) := by
  have := Q_index_ro (P := P) (d := d) (ty := ty) (pos := pos) (af := af) (g := g) (x := x) (ix := ix) (n := N) hx hi ht (by simp) (by decide) ⟨by omega, by omega⟩
  rw [show z.toNat * 1 = i by omega] at this
  exact this
theorem Q_ld_mbD {x : Operand} {T : TypeId} {i N : Nat} {f : Nat → Bool} (hx : st.ev x = .rpt ((List.range N).map fun b => .val (.bool (f b))) i) (h : i < N) (ht : ScT P T) : QOp P ⟨d, .load T x, ty, pos, af, g⟩ st (.val (.bool (f i))) :=
  Q_load_rpt hx (dt := .val (.bool (f i))) (by simp [h]) ht
end
section
variable {P : Program} {k : Nat} {cx : Cx k} {ops : Array Oper} {st : St} {K : St → Prop} {l2 : List Oper} {n g : Nat}
variable {ty : TypeId} {pos : String} {af : Array Edge} {d nn m f i : Nat} {vars : List (Nat × AV)} {objs objs' : List AO} {listed : List Bool} {r : List Nat}
theorem zw_mk_bools [Zs] {T e : TypeId} {x y : Operand} {j : Int} {o : Nat} (hi : ops[i]? = some ⟨some d, .makeSlice T x y, ty, pos, af, none⟩) (hin : Nat.blt i n = true) (hx : (⟨nn, vars, objs⟩ : St).ev x = .val (.int .i64 j)) (hy : (⟨nn, vars, objs⟩ : St).ev y = .val (.int .i64 j)) (hj : j = (o : Int)) (ht : SlT P T e 1) (hmk : MkT P e (.bool false) 1 1) (hbig : o ≤ 10000000000)
    (ho : objs ++ [.row e 1 (boolc (List.replicate o false))] = objs') (hm : objs.length = m) (hd : Nat.blt d nn = true)
    (hz : zL P cx ops K l2 n g f (listed.set i true) ⟨nn, (d, .own m) :: vars, objs'⟩) (hr : zAll P cx ops K l2 n g f listed ⟨nn, vars, objs⟩ r) : zAll P cx ops K l2 n g f listed ⟨nn, vars, objs⟩ (i :: r) := by
  subst ho; subst hm; subst hj
  refine ⟨⟨_, _, _, _, _, _, _, hi, hin, g_make (z0 := .bool false) (dt := .val (.bool false)) hx hy ht hmk (by omega) (by omega) (by decide) rfl (by decide) (fun _ _ => .val _), hd, ?_⟩, hr⟩
  have e : (List.replicate ((o : Int).toNat * 1) (Dat.val (.bool false))) = boolc (List.replicate o false) := by simp [boolc]
  rw [e]
  exact hz
end
end Go.Proofs.YtpfldhaaiglgdaaDoor
