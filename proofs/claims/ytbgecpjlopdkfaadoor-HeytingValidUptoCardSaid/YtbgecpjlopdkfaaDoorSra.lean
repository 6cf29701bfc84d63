import Derived.Test.YtbgecpjlopdkfaaDoorEngT
import Derived.Test.YtbgecpjlopdkfaaDoorFb
set_option linter.unusedSimpArgs false
set_option linter.unusedVariables false
set_option linter.unusedSectionVars false
set_option maxRecDepth 20000
namespace Go.Proofs.YtbgecpjlopdkfaaDoor
attribute [local irreducible] QOp aL aC qL
inductive Tr where
  | mk (kind point : Int) (kids : List Tr)
mutual
/-- The cells of a term. -/
def Tr.dc : Tr → List Dat
  | .mk k p l => [.val (.int .i64 k), .val (.int .i64 p), .sl 3 (kdc l)]
def kdc : List Tr → List Dat
  | [] => []
  | t :: r => t.dc ++ kdc r
end
def tv (t : Tr) : AV := .agg (t.dc.map ofD)
def tks (l : List Tr) : AV := .ro (.sl 3 (kdc l))
theorem dc_len : ∀ t : Tr, t.dc.length = 3
  | .mk _ _ _ => by unfold Tr.dc; rfl
theorem kdc_len : ∀ l : List Tr, (kdc l).length = l.length * 3
  | [] => by unfold kdc; rfl
  | t :: r => by unfold kdc; rw [List.length_append, dc_len, kdc_len r, List.length_cons]; omega
theorem kdc_get : ∀ {l : List Tr} {o : Nat} (h : o < l.length) (j : Nat), j < 3 → (kdc l)[o * 3 + j]? = (l[o]).dc[j]?
  | t :: r, 0, h, j, hj => by
    unfold kdc
    rw [List.getElem?_append_left (by rw [dc_len]; omega), Nat.zero_mul, Nat.zero_add]; rfl
  | t :: r, o + 1, h, j, hj => by
    unfold kdc
    rw [List.getElem?_append_right (by rw [dc_len]; omega), dc_len, show (o + 1) * 3 + j - 3 = o * 3 + j by omega, kdc_get (l := r) (by simpa using h) j hj]
    rfl
section
variable {P : Program} {st : St} {d : Option Tmp} {ty : TypeId} {pos : String} {af : Array Edge} {g : Option (Nat × Bool)}
theorem Q_len_kid {x : Operand} {T e : TypeId} {l : List Tr} (hx : st.ev x = tks l) (ht : SlT P T e 3) : QOp P ⟨d, .call ⟨.builtin .len, #[x], #[T]⟩, ty, pos, af, g⟩ st (.val (.int .i64 (l.length : Int))) :=
  Q_len_ro rfl hx rfl ht (kdc_len l) (by decide)
theorem Q_ix_kid {x ix : Operand} {T e : TypeId} {l : List Tr} {i : Int} {o : Nat} (hx : st.ev x = tks l) (hi : st.ev ix = .val (.int .i64 i)) (ho : i = (o : Int)) (ht : SlT P T e 3) (h : o < l.length) :
    QOp P ⟨d, .indexAddr T x ix, ty, pos, af, g⟩ st (.rpt (kdc l) (o * 3)) := by
  have := Q_index_ro (P := P) (d := d) (ty := ty) (pos := pos) (af := af) (g := g) (x := x) (ix := ix) hx hi ht (kdc_len l) (by decide) ⟨by omega, by omega⟩
  rw [show i.toNat * 3 = o * 3 by omega] at this
  exact this
theorem Q_ld_kid {x : Operand} {T : TypeId} {l : List Tr} {o : Nat} {k p : Int} {r : List Tr} (hx : st.ev x = .rpt (kdc l) (o * 3)) (h : o < l.length) (he : l[o] = .mk k p r) (ht : AgT P T 3) : QOp P ⟨d, .load T x, ty, pos, af, g⟩ st (.agg [.val (.int .i64 k), .val (.int .i64 p), tks r]) := by
  have := Q_load_rpt_agg (P := P) (d := d) (ty := ty) (pos := pos) (af := af) (g := g) (x := x) (st := st) (T := T) (ds := (l[o]).dc) hx (fun j dt hj => by
    have hj3 : j < 3 := by have := (List.getElem?_eq_some_iff.1 hj).1; rw [dc_len] at this; exact this
    rw [kdc_get h j hj3]; exact hj) (dc_len _) ht
  rw [he] at this
  have e : (Tr.mk k p r).dc.map ofD = [.val (.int .i64 k), .val (.int .i64 p), tks r] := by unfold Tr.dc tks; rfl
  rwa [e] at this
end
mutual
/-- How many terms. -/
def Tr.cnt : Tr → Nat
  | .mk _ _ l => 1 + kcnt l
def kcnt : List Tr → Nat
  | [] => 0
  | t :: r => t.cnt + kcnt r
end
mutual
/-- The points, from the left. -/
def Tr.pts : Tr → List Int
  | .mk k p l => if k = 1 then [p] else kpts l
def kpts : List Tr → List Int
  | [] => []
  | t :: r => t.pts ++ kpts r
end
mutual
def Tr.dep : Tr → Nat
  | .mk _ _ l => 1 + kdep l
def kdep : List Tr → Nat
  | [] => 0
  | t :: r => max t.dep (kdep r)
end
theorem dep_kid : ∀ {l : List Tr} {o : Nat} (h : o < l.length), (l[o]).dep ≤ kdep l
  | t :: r, 0, h => by show t.dep ≤ kdep (t :: r); unfold kdep; omega
  | t :: r, o + 1, h => by
    have := dep_kid (l := r) (o := o) (by simpa using h)
    show (r[o]'(by simpa using h)).dep ≤ kdep (t :: r)
    unfold kdep; omega
theorem kcnt_take : ∀ {l : List Tr} {o : Nat} (h : o < l.length), kcnt (l.take (o + 1)) = kcnt (l.take o) + (l[o]).cnt
  | t :: r, 0, h => by show kcnt [t] = 0 + t.cnt; unfold kcnt kcnt; omega
  | t :: r, o + 1, h => by
    have := kcnt_take (l := r) (o := o) (by simpa using h)
    show kcnt (t :: r.take (o + 1)) = kcnt (t :: r.take o) + (r[o]'(by simpa using h)).cnt
    unfold kcnt; omega
theorem kcnt_mono : ∀ (l : List Tr) (o : Nat), kcnt (l.take o) ≤ kcnt l
  | [], o => by simp
  | t :: r, 0 => by show kcnt [] ≤ _; unfold kcnt; omega
  | t :: r, o + 1 => by
    have := kcnt_mono r o
    show kcnt (t :: r.take o) ≤ kcnt (t :: r)
    unfold kcnt; omega
theorem cnt_pos : ∀ t : Tr, 1 ≤ t.cnt
  | .mk _ _ l => by unfold Tr.cnt; omega
theorem kcnt_len : ∀ l : List Tr, l.length ≤ kcnt l
  | [] => Nat.zero_le _
  | t :: r => by
    have := kcnt_len r
    have := cnt_pos t
    unfold kcnt; rw [List.length_cons]; omega
mutual
theorem pts_cnt : ∀ t : Tr, t.pts.length ≤ t.cnt
  | .mk k p l => by
    have := kpts_cnt l
    unfold Tr.pts Tr.cnt
    split
    · rw [List.length_singleton]; omega
    · omega
theorem kpts_cnt : ∀ l : List Tr, (kpts l).length ≤ kcnt l
  | [] => by unfold kpts; simp
  | t :: r => by
    have := pts_cnt t
    have := kpts_cnt r
    unfold kpts kcnt; rw [List.length_append]; omega
end
end Go.Proofs.YtbgecpjlopdkfaaDoor
