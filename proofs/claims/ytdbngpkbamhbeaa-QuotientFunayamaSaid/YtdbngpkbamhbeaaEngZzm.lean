import Derived.Test.YtdbngpkbamhbeaaIp
import Derived.Test.YtdbngpkbamhbeaaCn
import Derived.Test.YtdbngpkbamhbeaaJh
import Derived.Test.YtdbngpkbamhbeaaEngZzl
import Derived.Test.YtdbngpkbamhbeaaIr
set_option linter.unusedSimpArgs false
set_option linter.unusedVariables false
set_option linter.unusedSectionVars false
set_option maxRecDepth 20000
namespace Go.Proofs.Ytdbngpkbamhbeaa
def rwT (f : Nat → Nat → Nat) (x k : Nat) : List Nat := (List.range k).map (f x)
theorem rwT_succ (f : Nat → Nat → Nat) (x k : Nat) : rwT f x (k + 1) = rwT f x k ++ [f x k] := by unfold rwT; rw [List.range_succ, List.map_append]; rfl
theorem rwT_len (f : Nat → Nat → Nat) (x k : Nat) : (rwT f x k).length = k := by simp [rwT]
def tbT (n : Nat) (f : Nat → Nat → Nat) (i : Nat) : List (List Nat) := (List.range i).map fun x => rwT f x n
theorem tbT_succ (n : Nat) (f : Nat → Nat → Nat) (i : Nat) : tn (tbT n f (i + 1)) = tn (tbT n f i) ++ [nl (rwT f i n)] := by unfold tbT tn; rw [List.range_succ, List.map_append, List.map_append]; rfl
theorem tbT_len (n : Nat) (f : Nat → Nat → Nat) (i : Nat) : (tn (tbT n f i)).length = i := by simp [tbT, tn]
end Go.Proofs.Ytdbngpkbamhbeaa
set_option linter.unusedSimpArgs false
set_option linter.unusedVariables false
set_option linter.unusedSectionVars false
set_option maxRecDepth 20000
namespace Go.Proofs.Ytdbngpkbamhbeaa
/-- An operation, class by class. -/
def qf (c : List Nat) (f : Nat → Nat → Nat) (a b : Nat) : Nat := c.getD (f (c.idxOf a) (c.idxOf b)) 0
theorem cls_at {c : List Nat} {a : Nat} (hc : Can c) (h : a < nxC c c.length) : c.idxOf a < c.length ∧ c.getD (c.idxOf a) 0 = a := by
  obtain ⟨i, hi, e⟩ := nxC_on c.length (Nat.le_refl _) hc h
  have := idxOf_at hi
  rwa [e] at this
theorem tab_ta {n : Nat} (f : Nat → Nat → Nat) {x y : Nat} (hx : x < n) (hy : y < n) : ta (tbT n f n) x y = f x y := by
  unfold ta tbT rwT
  have e : ((List.range n).map fun x => (List.range n).map (f x)).getD x [] = (List.range n).map (f x) := by
    rw [List.getD_eq_getElem?_getD, List.getElem?_map, List.getElem?_range hx]; rfl
  rw [e, List.getD_eq_getElem?_getD, List.getElem?_map, List.getElem?_range hy]; rfl
theorem tab_sq {n : Nat} {f : Nat → Nat → Nat} (h : ∀ x y, x < n → y < n → f x y < n) : Sq n (tbT n f n) :=
  ⟨by simp [tbT], fun x hx => by
    have e : (tbT n f n).getD x [] = (List.range n).map (f x) := by
      unfold tbT rwT
      rw [List.getD_eq_getElem?_getD, List.getElem?_map, List.getElem?_range hx]; rfl
    rw [e, List.length_map, List.length_range], fun x y hx hy => by rw [tab_ta f hx hy]; exact h x y hx hy⟩
section
variable {n : Nat} {f g : Nat → Nat → Nat} (L : Lt n f g) {c : List Nat} (hl : c.length = n) (hcp : Cpt n f g c)
include L hl hcp
theorem qf_hom {x y : Nat} (hx : x < n) (hy : y < n) : qf c f (c.getD x 0) (c.getD y 0) = c.getD (f x y) 0 := by
  unfold qf
  obtain ⟨h1, e1⟩ := idxOf_at (c := c) (x := x) (by omega)
  obtain ⟨h2, e2⟩ := idxOf_at (c := c) (x := y) (by omega)
  generalize c.idxOf (c.getD x 0) = u at *
  generalize c.idxOf (c.getD y 0) = v at *
  rw [hl] at h1 h2
  rw [(hcp u h1 x hx e1 v h2).1, L.comm hx h2, (hcp v h2 y hy e2 x hx).1, L.comm hy hx]
theorem qf_lt {a b : Nat} (hc : Can c) (ha : a < nxC c c.length) (hb : b < nxC c c.length) : qf c f a b < nxC c c.length := by
  obtain ⟨h1, e1⟩ := cls_at hc ha
  obtain ⟨h2, e2⟩ := cls_at hc hb
  exact nxC_up c.length (Nat.le_refl _) (by rw [hl]; exact L.fl _ _ (by omega) (by omega))
theorem qf_law (hc : Can c) : LawT (nxC c c.length) (qf c f) (qf c g) := by
  have hcp' : Cpt n g f c := fun x hx y hy e z hz => ⟨(hcp x hx y hy e z hz).2, (hcp x hx y hy e z hz).1⟩
  have F := fun {x y : Nat} => qf_hom L hl hcp (x := x) (y := y)
  have G := fun {x y : Nat} => qf_hom L.dual hl hcp' (x := x) (y := y)
  intro a ha
  obtain ⟨h1, e1⟩ := cls_at hc ha
  generalize c.idxOf a = x at h1 e1
  subst e1
  rw [hl] at h1
  refine ⟨by rw [F h1 h1, L.idem h1], fun b hb => ?_⟩
  obtain ⟨h2, e2⟩ := cls_at hc hb
  generalize c.idxOf b = y at h2 e2
  subst e2
  rw [hl] at h2
  have f1 := L.fl x y h1 h2
  have g1 := L.gl x y h1 h2
  refine ⟨by rw [F h1 h2, F h2 h1, L.comm h1 h2], by rw [G h1 h2, F h1 g1, L.absorb h1 h2], fun d hd => ?_⟩
  obtain ⟨h3, e3⟩ := cls_at hc hd
  generalize c.idxOf d = z at h3 e3
  subst e3
  rw [hl] at h3
  rw [F h2 h3, F h1 (L.fl _ _ h2 h3), F h1 h2, F f1 h3, L.assoc h1 h2 h3]
end
/-- The lattice of the classes is one. -/
theorem qf_La {n : Nat} {M J : List (List Nat)} (hL : La n M J) {c : List Nat} (hl : c.length = n) (hc : Can c) (hcp : Cpt n (ta M) (ta J) c) :
    La (nxC c c.length) (tbT (nxC c c.length) (qf c (ta M)) (nxC c c.length)) (tbT (nxC c c.length) (qf c (ta J)) (nxC c c.length)) := by
  have L := hL.A
  have hn := hL.n2
  have h1 := hL.n1
  have hcp' : Cpt n (ta J) (ta M) c := fun x hx y hy e z hz => ⟨(hcp x hx y hy e z hz).2, (hcp x hx y hy e z hz).1⟩
  have hle := nxC_le (c := c) c.length (Nat.le_refl _) hc
  have hup := nxC_up (c := c) (i := 0) c.length (Nat.le_refl _) (by omega)
  have lf := fun a b (ha : a < nxC c c.length) (hb : b < nxC c c.length) => qf_lt L hl hcp hc ha hb
  have lg := fun a b (ha : a < nxC c c.length) (hb : b < nxC c c.length) => qf_lt L.dual hl hcp' hc ha hb
  have kf := qf_law L hl hcp hc
  have kg := qf_law L.dual hl hcp' hc
  generalize nxC c c.length = m at *
  have q1 : ∀ x y, x < m → y < m → ta (tbT m (qf c (ta M)) m) x y = qf c (ta M) x y := fun x y hx hy => tab_ta _ hx hy
  have q2 : ∀ x y, x < m → y < m → ta (tbT m (qf c (ta J)) m) x y = qf c (ta J) x y := fun x y hx hy => tab_ta _ hx hy
  refine ⟨by omega, by omega, tab_sq lf, tab_sq lg, ?_⟩
  generalize ta (tbT m (qf c (ta M)) m) = f' at *
  generalize ta (tbT m (qf c (ta J)) m) = g' at *
  have tr : ∀ {f' g' f g : Nat → Nat → Nat}, (∀ x y, x < m → y < m → f' x y = f x y) → (∀ x y, x < m → y < m → g' x y = g x y) → (∀ a b, a < m → b < m → f a b < m) → (∀ a b, a < m → b < m → g a b < m) → LawT m f g → LawT m f' g' := fun {f' g' f g} e1 e2 l1 l2 h x hx =>
    ⟨by rw [e1 x x hx hx]; exact (h x hx).1, fun y hy => ⟨by rw [e1 x y hx hy, e1 y x hy hx]; exact ((h x hx).2 y hy).1, by rw [e2 x y hx hy, e1 x _ hx (l2 x y hx hy)]; exact ((h x hx).2 y hy).2.1, fun z hz => by rw [e1 y z hy hz, e1 x _ hx (l1 y z hy hz), e1 x y hx hy, e1 _ z (l1 x y hx hy) hz]; exact ((h x hx).2 y hy).2.2 z hz⟩⟩
  exact ⟨fun x y hx hy => by rw [q1 x y hx hy]; exact lf x y hx hy, fun x y hx hy => by rw [q2 x y hx hy]; exact lg x y hx hy, tr q1 q2 lf lg kf, tr q2 q1 lg lf kg⟩
end Go.Proofs.Ytdbngpkbamhbeaa
set_option linter.unusedSimpArgs false
set_option linter.unusedVariables false
set_option linter.unusedSectionVars false
namespace Go.Proofs.Ytdbngpkbamhbeaa
open Go.RowKit
variable {P : Program} {st : St} {ty : TypeId} {pos : String} {af : Array Edge} {d : Option Tmp} {g : Option (Nat × Bool)} {T : TypeId} {x : Operand}
theorem P_ixc {ix : Operand} {e : TypeId} {cs : List Dat} {i : Int} {o : Nat} (hx : st.ev x = .ro (.sl 1 cs)) (hi : st.ev ix = .val (.int .i64 i)) (hio : i = (o : Int)) (ht : SlT P T e 1) (h : o < cs.length) :
    POp P ⟨d, .indexAddr T x ix, ty, pos, af, g⟩ st (.rpt cs o) := fun _ ρ w a hr => by
  have hg := hr.ev x
  rw [hx] at hg
  have hrd : Rd w (Ban ρ st.objs) (a.eval x) (.sl 1 cs) := hg.ro_inv
  obtain ⟨u, hu⟩ : ∃ u, a.eval x = u := ⟨_, rfl⟩
  rw [hu] at hrd
  cases hrd with
  | nil _ => rw [List.length_nil] at h; omega
  | sl ad n' cap _ _ us hn' hsp hM hc hd =>
    refine ⟨.pointer (some (ad.add o)), .rpt ad _ _ us trivial hM hc hd, fun w1 => ?_⟩
    have := run_indexAt_slice (P := P) ht ad n' cap .i64 i (by omega) (by omega) w1
    rw [show i.toNat * 1 = o by omega] at this
    simp only [execOp, hu, hr.evv hi, Sem.run_bind, this, Result.andThen_ok, Sem.run_pure]
theorem R_ix_tn {ix : Operand} {e : TypeId} {n : Nat} {M : List (List Nat)} {i : Int} {o : Nat} (hM : Sq n M) (hx : st.ev x = rows (tn M)) (hi : st.ev ix = .val (.int .i64 i)) (ho : i = (o : Int)) (ht : SlT P T e 1) (h : o < n) :
    ROp P ⟨d, .indexAddr T x ix, ty, pos, af, g⟩ st (.rpt (rowc (tn M)) o) := POp.r (P_ixc hx hi ho ht (by rw [rowc_len, tn_len, hM.len]; omega))
theorem R_ld_tn {n : Nat} {M : List (List Nat)} {o : Nat} (hM : Sq n M) (hx : st.ev x = .rpt (rowc (tn M)) o) (h : o < n) (ht : ScT P T) : ROp P ⟨d, .load T x, ty, pos, af, g⟩ st (ints (nl (M.getD o []))) := by
  rw [← tn_get]; exact R_ld_rs hx (rowc_get (by rw [tn_len, hM.len]; exact h)) ht
theorem R_ix_tr {ix : Operand} {e : TypeId} {n : Nat} {M : List (List Nat)} {r : Nat} {i : Int} {o : Nat} (hM : Sq n M) (hx : st.ev x = ints (nl (M.getD r []))) (hi : st.ev ix = .val (.int .i64 i)) (ho : i = (o : Int)) (ht : SlT P T e 1) (hr : r < n) (h : o < n) :
    ROp P ⟨d, .indexAddr T x ix, ty, pos, af, g⟩ st (.rpt (intc (nl (M.getD r []))) o) := POp.r (P_ixc hx hi ho ht (by rw [intc_len, nl_len, hM.row r hr]; omega))
theorem R_ld_ta {n : Nat} {M : List (List Nat)} {r o : Nat} (hM : Sq n M) (hx : st.ev x = .rpt (intc (nl (M.getD r []))) o) (hr : r < n) (h : o < n) (ht : ScT P T) :
    ROp P ⟨d, .load T x, ty, pos, af, g⟩ st (.val (.int .i64 ((ta M r o : Nat) : Int))) := by
  have := R_ld_rv (P := P) (d := d) (ty := ty) (pos := pos) (af := af) (g := g) hx (intc_get (l := nl (M.getD r [])) (o := o) (by rw [nl_len, hM.row r hr]; exact h)) ht
  rwa [nl_get] at this
theorem R_ix_nl {ix : Operand} {e : TypeId} {l : List Nat} {i : Int} {o : Nat} (hx : st.ev x = ints (nl l)) (hi : st.ev ix = .val (.int .i64 i)) (ho : i = (o : Int)) (ht : SlT P T e 1) (h : o < l.length) :
    ROp P ⟨d, .indexAddr T x ix, ty, pos, af, g⟩ st (.rpt (intc (nl l)) o) := POp.r (P_ixc hx hi ho ht (by rw [intc_len, nl_len]; omega))
theorem R_ld_nl {l : List Nat} {o : Nat} (hx : st.ev x = .rpt (intc (nl l)) o) (h : o < l.length) (ht : ScT P T) : ROp P ⟨d, .load T x, ty, pos, af, g⟩ st (.val (.int .i64 ((l.getD o 0 : Nat) : Int))) := by
  have := R_ld_rv (P := P) (d := d) (ty := ty) (pos := pos) (af := af) (g := g) hx (intc_get (l := nl l) (o := o) (by rw [nl_len]; exact h)) ht
  rwa [nl_get] at this
end Go.Proofs.Ytdbngpkbamhbeaa
