import Derived.Test.YtgojkabjgagjcaaEngZv
import Derived.Test.YtgojkabjgagjcaaEngZd
import Derived.Test.YtgojkabjgagjcaaCd
import Derived.Test.YtgojkabjgagjcaaEngT
import Derived.Test.YtgojkabjgagjcaaTi
import Derived.Test.YtgojkabjgagjcaaXc
import Derived.Laws.Slices
set_option linter.unusedSimpArgs false
set_option linter.unusedVariables false
set_option linter.unusedSectionVars false
namespace Go.Proofs.Ytgojkabjgagjcaa
open Go.RowKit
/-- The table: gB tells where a row lies, cC its room. -/
def mtV (n : Nat) (gB cC : Nat → Nat) (M : Nat → Nat → Bool) : List (Value × List Value) := (List.range n).map fun a => (.slice (some ⟨gB a, 0, none⟩) n (cC a), (List.range n).map fun b => .bool (M a b))
/-- The first i rows of it laid out. -/
def blV (n : Nat) (gB cC : Nat → Nat) (i : Nat) : List (Value × List Value) := (List.range n).map fun a => if a < i then (.slice (some ⟨gB a, 0, none⟩) n (cC a), (List.range n).map fun _ => .bool false) else (.slice none 0 0, [])
def updN (f : Nat → Nat) (i v : Nat) : Nat → Nat := fun x => if x = i then v else f x
def updM (M : Nat → Nat → Bool) (a c : Nat) (v : Bool) : Nat → Nat → Bool := fun x y => if x = a ∧ y = c then v else M x y
theorem mtV_len (n : Nat) (gB cC : Nat → Nat) (M : Nat → Nat → Bool) : (mtV n gB cC M).length = n := by simp [mtV]
theorem blV_len (n : Nat) (gB cC : Nat → Nat) (i : Nat) : (blV n gB cC i).length = n := by simp [blV]
theorem mtV_get {n : Nat} {gB cC : Nat → Nat} {M : Nat → Nat → Bool} {a : Nat} (h : a < n) : (mtV n gB cC M)[a]? = some (.slice (some ⟨gB a, 0, none⟩) n (cC a), (List.range n).map fun b => .bool (M a b)) := by
  simp [mtV, h]
theorem rowV_get {n : Nat} {f : Nat → Bool} {b : Nat} (h : b < n) : ((List.range n).map fun b => Value.bool (f b))[b]? = some (.bool (f b)) := by simp [h]
theorem mtV_set {n : Nat} {gB cC : Nat → Nat} {M : Nat → Nat → Bool} {a b : Nat} {v : Bool} (ha : a < n) (hb : b < n) :
    (mtV n gB cC M).set a (.slice (some ⟨gB a, 0, none⟩) n (cC a), ((List.range n).map fun b => Value.bool (M a b)).set b (.bool v)) = mtV n gB cC (updM M a b v) := by
  apply List.ext_getElem?
  intro x
  by_cases hx : x < n
  · rw [mtV_get hx]
    by_cases e : x = a
    · subst e
      rw [List.getElem?_set_self (by rw [mtV_len]; exact hx)]
      congr 2
      apply List.ext_getElem?
      intro y
      by_cases hy : y < n
      · rw [rowV_get hy]
        by_cases e2 : y = b
        · subst e2
          rw [List.getElem?_set_self (by simpa using hy)]
          simp [updM]
        · rw [List.getElem?_set_ne (Ne.symm e2), rowV_get hy]
          simp [updM, e2]
      · rw [List.getElem?_eq_none (by simp; omega), List.getElem?_eq_none (by simp; omega)]
    · rw [List.getElem?_set_ne (Ne.symm e), mtV_get hx]
      congr 2
      refine List.map_congr_left fun y _ => ?_
      simp [updM, e]
  · rw [List.getElem?_eq_none (by rw [List.length_set, mtV_len]; omega), List.getElem?_eq_none (by rw [mtV_len]; omega)]
theorem blV_zero (n : Nat) (gB cC : Nat → Nat) : List.replicate n ((Value.slice none 0 0, []) : Value × List Value) = blV n gB cC 0 := by
  apply List.ext_getElem?
  intro x
  by_cases hx : x < n <;> simp [blV, hx]
theorem blV_full (n : Nat) (gB cC : Nat → Nat) : blV n gB cC n = mtV n gB cC fun _ _ => false := by
  unfold blV mtV
  refine List.map_congr_left fun a ha => ?_
  rw [if_pos (List.mem_range.1 ha)]
theorem blV_set {n : Nat} {gB cC : Nat → Nat} {i g cap : Nat} (hi : i < n) : (blV n gB cC i).set i (.slice (some ⟨g, 0, none⟩) n cap, List.replicate n (.bool false)) = blV n (updN gB i g) (updN cC i cap) (i + 1) := by
  apply List.ext_getElem?
  intro x
  by_cases hx : x < n
  · by_cases e : x = i
    · subst e
      rw [List.getElem?_set_self (by rw [blV_len]; exact hx)]
      simp [blV, hx, updN]
      rw [List.map_const', List.length_range]
    · rw [List.getElem?_set_ne (Ne.symm e)]
      by_cases h2 : x < i
      · simp [blV, hx, updN, e, h2, show x < i + 1 by omega]
      · simp [blV, hx, h2, show ¬ x < i + 1 by omega]
  · rw [List.getElem?_eq_none (by rw [List.length_set, blV_len]; omega), List.getElem?_eq_none (by rw [blV_len]; omega)]
section
variable {P : Program} {k : Nat} {cx : Cx k} {ops : Array Oper} {Q : Exit → St → Prop} {rest : List Oper} {ty : TypeId} {pos : String} {af : Array Edge} {n : Nat} {vars : List (Nat × AV)} {objs objs' : List AO} {d m : Nat}
/-- make([][]bool, N). -/
theorem w_makeM [Zs] {T e : TypeId} (e' : TypeId) {x y : Operand} {N : Nat} (gB cC : Nat → Nat) (hx : (⟨n, vars, objs⟩ : St).ev x = .val (.int .i64 (N : Int))) (hy : (⟨n, vars, objs⟩ : St).ev y = .val (.int .i64 (N : Int))) (ht : SlT P T e 1) (hmk : MkT P e (.slice none 0 0) 1 24) (hN : N ≤ 10000000000)
    (ho : objs ++ [.mat e e' (blV N gB cC 0)] = objs') (hm : objs.length = m) (hd : Nat.blt d n = true) (hk : aL P cx ops Q rest ⟨n, (d, .own m) :: vars, objs'⟩) :
    aL P cx ops Q (⟨some d, .makeSlice T x y, ty, pos, af, none⟩ :: rest) ⟨n, vars, objs⟩ := by
  subst ho; subst hm
  rw [← blV_zero] at hk
  exact l_makeM hx hy ht hmk hN hd hk
/-- A row, laid into the table. -/
theorem w_stM [Zs] {T e e' : TypeId} {x y : Operand} {id kk i N : Nat} {gB cC : Nat → Nat} (hx : (⟨n, vars, objs⟩ : St).ev x = .ept id i) (hob : objs[id]? = some (.mat e e' (blV N gB cC i))) (hi : i < N) (hy : (⟨n, vars, objs⟩ : St).ev y = .own kk)
    (hok : objs[kk]? = some (.row e' 1 (boolc (List.replicate N false)))) (hne : Nat.beq kk id = false) (hk0 : Nat.ble k id = true) (ht : SzOf P T 1)
    (hk : ∀ gB cC, aL P cx ops Q rest ⟨n, vars, (objs.set kk .gone).set id (.mat e e' (blV N gB cC (i + 1)))⟩) : aL P cx ops Q (⟨none, .store T x y, ty, pos, af, none⟩ :: rest) ⟨n, vars, objs⟩ := by
  refine l_stM (r := List.replicate N (.bool false)) hx hob (by rw [blV_len]; exact hi) hy (by rw [hok]; simp [boolc]) (fun h => by subst h; simp at hne) (by simpa using hk0) ht fun u hu => ?_
  obtain ⟨g, cap, rfl⟩ := hu (by cases N with | zero => omega | succ N => simp)
  rw [List.length_replicate, blV_set hi]
  exact hk _ _
/-- A truth, stored into the table. -/
theorem w_stI [Zs] {T e e' : TypeId} {x y : Operand} {id a b N : Nat} {gB cC : Nat → Nat} {M : Nat → Nat → Bool} {v : Bool} (ha : a < N) (hb : b < N) (hx : (⟨n, vars, objs⟩ : St).ev x = .val (.pointer (some ⟨gB a, b, none⟩))) (hob : objs[id]? = some (.mat e e' (mtV N gB cC M)))
    (hy : (⟨n, vars, objs⟩ : St).ev y = .val (.bool v)) (ht : SzOf P T 1) (ho : objs.set id (.mat e e' (mtV N gB cC (updM M a b v))) = objs') (hk : aL P cx ops Q rest ⟨n, vars, objs'⟩) :
    aL P cx ops Q (⟨none, .store T x y, ty, pos, af, none⟩ :: rest) ⟨n, vars, objs⟩ := by
  subst ho
  refine l_stI (v := .bool v) hx hob (mtV_get ha) (by simpa using hb) hy rfl ht ?_
  rw [mtV_set ha hb]
  exact hk
end
section
variable {P : Program} {st : St} {d : Option Tmp} {ty : TypeId} {pos : String} {af : Array Edge} {g : Option (Nat × Bool)}
theorem Q_ix_bl {x ix : Operand} {T e e0 e' : TypeId} {id i N : Nat} {gB cC : Nat → Nat} {z : Int} {j : Nat} (hx : st.ev x = .own id) (ho : st.objs[id]? = some (.mat e0 e' (blV N gB cC j))) (hi : st.ev ix = .val (.int .i64 z)) (hz : z = (i : Int)) (ht : SlT P T e 1) (h : i < N) :
    QOp P ⟨d, .indexAddr T x ix, ty, pos, af, g⟩ st (.ept id i) := Q_ix_mat hx ho hi hz ht (by rw [blV_len]; exact h)
theorem Q_ix_mt {x ix : Operand} {T e e0 e' : TypeId} {id i N : Nat} {gB cC : Nat → Nat} {M : Nat → Nat → Bool} {z : Int} (hx : st.ev x = .own id) (ho : st.objs[id]? = some (.mat e0 e' (mtV N gB cC M))) (hi : st.ev ix = .val (.int .i64 z)) (hz : z = (i : Int)) (ht : SlT P T e 1) (h : i < N) :
    QOp P ⟨d, .indexAddr T x ix, ty, pos, af, g⟩ st (.ept id i) := Q_ix_mat hx ho hi hz ht (by rw [mtV_len]; exact h)
theorem Q_ld_mt {x : Operand} {T e0 e' : TypeId} {id a N : Nat} {gB cC : Nat → Nat} {M : Nat → Nat → Bool} (hx : st.ev x = .ept id a) (ho : st.objs[id]? = some (.mat e0 e' (mtV N gB cC M))) (h : a < N) (ht : ScT P T) :
    QOp P ⟨d, .load T x, ty, pos, af, g⟩ st (.val (.slice (some ⟨gB a, 0, none⟩) N (cC a))) := Q_ld_mat hx ho (mtV_get h) ht
theorem Q_ld_mb {x : Operand} {T e0 e' : TypeId} {id a b N : Nat} {gB cC : Nat → Nat} {M : Nat → Nat → Bool} (ho : st.objs[id]? = some (.mat e0 e' (mtV N gB cC M))) (ha : a < N) (hb : b < N) (hx : st.ev x = .val (.pointer (some ⟨gB a, b, none⟩))) (ht : ScT P T) :
    QOp P ⟨d, .load T x, ty, pos, af, g⟩ st (.val (.bool (M a b))) := Q_ld_in hx ho (mtV_get ha) (rowV_get hb) ht
/-- The table, only read. -/
def mtD (n : Nat) (M : Nat → Nat → Bool) : List Dat := (List.range n).map fun a => .sl 1 ((List.range n).map fun b => .val (.bool (M a b)))
end
end Go.Proofs.Ytgojkabjgagjcaa
set_option linter.unusedSimpArgs false
set_option linter.unusedVariables false
set_option linter.unusedSectionVars false
set_option maxRecDepth 20000
namespace Go.Proofs.Ytgojkabjgagjcaa
attribute [local irreducible] QOp aL aC qL
theorem sqN_le2 {f g : Nat → Nat} : ∀ {k : Nat}, (∀ i, i < k → f i ≤ g i) → sqN f k ≤ sqN g k
  | 0, _ => Nat.le_refl _
  | k + 1, h => by
    have h1 := h k (by omega)
    have h2 := sqN_le2 (f := f) (g := g) (k := k) fun i hi => h i (by omega)
    rw [sqN, sqN]; omega
theorem sqN_lt {f g : Nat → Nat} : ∀ {k x : Nat}, (∀ i, i < k → f i ≤ g i) → x < k → f x < g x → sqN f k < sqN g k
  | 0, x, _, hx, _ => by omega
  | k + 1, x, h, hx, hl => by
    have h1 := h k (by omega)
    rw [sqN, sqN]
    by_cases e : x = k
    · subst e
      have := sqN_le2 (f := f) (g := g) (k := x) fun i hi => h i (by omega)
      omega
    · have := sqN_lt (f := f) (g := g) (k := k) (x := x) (fun i hi => h i (by omega)) (by omega) hl
      omega
/-- How many truths. -/
def cntM (n : Nat) (M : Nat → Nat → Bool) : Nat := sqN (fun a => cqN (M a) n) n
theorem cntM_le (n : Nat) (M : Nat → Nat → Bool) : cntM n M ≤ n * n := sqN_le fun i _ => cqN_le _ _
theorem updM_same (M : Nat → Nat → Bool) (a c : Nat) (v : Bool) : updM M a c v a c = v := by unfold updM; rw [if_pos ⟨rfl, rfl⟩]
theorem updM_true {M : Nat → Nat → Bool} {a c x y : Nat} : updM M a c true x y = true ↔ (x = a ∧ y = c) ∨ M x y = true := by
  unfold updM
  by_cases h : x = a ∧ y = c
  · rw [if_pos h]; simp [h]
  · rw [if_neg h]; simp [h]
theorem cntM_upd {n : Nat} {M : Nat → Nat → Bool} {a c : Nat} (ha : a < n) (hc : c < n) (h : M a c = false) : cntM n M < cntM n (updM M a c true) := by
  refine sqN_lt (x := a) (fun i _ => cqN_mono fun y _ hy => updM_true.2 (.inr hy)) ha ?_
  exact cqN_lt (x := c) (fun y _ hy => updM_true.2 (.inr hy)) hc h (updM_same _ _ _ _)
/-- It has the pairs, and nothing that is not come to by them. -/
structure TG (n : Nat) (l : List (Nat × Nat)) (M : Nat → Nat → Bool) : Prop where
  sup : ∀ p ∈ l, M p.1 p.2 = true
  snd : ∀ a b, a < n → b < n → M a b = true → Reach l a b
theorem TG.upd {n : Nat} {l : List (Nat × Nat)} {M : Nat → Nat → Bool} (h : TG n l M) {a b c : Nat} (ha : a < n) (hb : b < n) (hc : c < n) (h1 : M a b = true) (h2 : M b c = true) : TG n l (updM M a c true) :=
  ⟨fun p hp => updM_true.2 (.inr (h.sup p hp)), fun x y hx hy hxy => by
    rcases updM_true.1 hxy with ⟨rfl, rfl⟩ | hxy
    · exact (h.snd _ _ ha hb h1).trans (h.snd _ _ hb hc h2)
    · exact h.snd x y hx hy hxy⟩
/-- So far a pass has come. -/
def DnV (a b c a' b' c' : Nat) : Prop := a' < a ∨ (a' = a ∧ (b' < b ∨ (b' = b ∧ c' < c)))
structure PI (n : Nat) (l : List (Nat × Nat)) (M0 : Nat → Nat → Bool) (ag : Bool) (M : Nat → Nat → Bool) (a b c : Nat) : Prop where
  tg : TG n l M
  no : ag = false → M = M0 ∧ ∀ a' b' c', a' < n → b' < n → c' < n → DnV a b c a' b' c' → M a' b' = true → M b' c' = true → M a' c' = true
  ys : ag = true → cntM n M0 < cntM n M
theorem PI.start {n : Nat} {l : List (Nat × Nat)} {M : Nat → Nat → Bool} (h : TG n l M) : PI n l M false M 0 0 0 :=
  ⟨h, fun _ => ⟨rfl, fun a' b' c' _ _ _ hd => by unfold DnV at hd; omega⟩, fun h => by cases h⟩
theorem PI.to {n : Nat} {l : List (Nat × Nat)} {M0 M : Nat → Nat → Bool} {ag : Bool} {a b c a2 b2 c2 : Nat} (h : PI n l M0 ag M a b c) (hd : ∀ a' b' c', a' < n → b' < n → c' < n → DnV a2 b2 c2 a' b' c' → DnV a b c a' b' c') : PI n l M0 ag M a2 b2 c2 :=
  ⟨h.tg, fun hf => ⟨(h.no hf).1, fun a' b' c' h1 h2 h3 h4 => (h.no hf).2 a' b' c' h1 h2 h3 (hd a' b' c' h1 h2 h3 h4)⟩, h.ys⟩
theorem PI.keep {n : Nat} {l : List (Nat × Nat)} {M0 M : Nat → Nat → Bool} {ag : Bool} {a b c : Nat} (h : PI n l M0 ag M a b c) (hk : M a b = true → M b c = true → M a c = true) : PI n l M0 ag M a b (c + 1) :=
  ⟨h.tg, fun hf => ⟨(h.no hf).1, fun a' b' c' h1 h2 h3 h4 => by
    by_cases e : a' = a ∧ b' = b ∧ c' = c
    · obtain ⟨rfl, rfl, rfl⟩ := e; exact hk
    · exact (h.no hf).2 a' b' c' h1 h2 h3 (by unfold DnV at *; omega)⟩, h.ys⟩
theorem PI.upd {n : Nat} {l : List (Nat × Nat)} {M0 M : Nat → Nat → Bool} {ag : Bool} {a b c : Nat} (h : PI n l M0 ag M a b c) (ha : a < n) (hb : b < n) (hc : c < n) (h1 : M a b = true) (h2 : M b c = true) (h3 : M a c = false) : PI n l M0 true (updM M a c true) a b (c + 1) :=
  ⟨h.tg.upd ha hb hc h1 h2, fun hf => (by cases hf), fun _ => by
    have hu := cntM_upd ha hc h3
    cases hag : ag with
    | false => rw [(h.no hag).1] at hu ⊢; exact hu
    | true => exact Nat.lt_trans (h.ys hag) hu⟩
/-- Nothing turns any more. -/
def ClM (n : Nat) (M : Nat → Nat → Bool) : Prop := ∀ a b c, a < n → b < n → c < n → M a b = true → M b c = true → M a c = true
theorem PI.fin {n : Nat} {l : List (Nat × Nat)} {M0 M : Nat → Nat → Bool} (h : PI n l M0 false M n 0 0) : ClM n M :=
  fun a b c ha hb hc h1 h2 => (h.no rfl).2 a b c ha hb hc (.inl ha) h1 h2
/-- The first i pairs. -/
def prM (l : List (Nat × Nat)) (i : Nat) (a b : Nat) : Bool := decide ((a, b) ∈ l.take i)
end Go.Proofs.Ytgojkabjgagjcaa
