import Derived.Test.YtbgecpjlopdkfaaDoorHeb
import Derived.Test.YtbgecpjlopdkfaaDoorSra
set_option linter.unusedSimpArgs false
set_option linter.unusedVariables false
set_option linter.unusedSectionVars false
set_option maxRecDepth 20000
namespace Go.Proofs.YtbgecpjlopdkfaaDoor
open Go.RowKit
section
variable {st : St} {d : Option Tmp} {ty : TypeId} {pos : String} {af : Array Edge} {gd : Option (Nat × Bool)}
/-- A method with its receiver: what it is is not kept. -/
theorem Q_mval {P : Program} {f : FuncId} {x : Operand} : QOp P ⟨d, .makeFunc (.func f) #[x] #[], ty, pos, af, gd⟩ st .any :=
  .run fun ρ w a hr => ⟨.func (.func f) #[a.eval x] #[], .any _, fun w1 _ => by simp [execOp, Instr.makeFunc]⟩
theorem on_ent : Enters Tryd.prog 127 := ⟨_, Tryd.func127, by kernel_rfl, by kernel_rfl⟩
/-- Do that is done already. -/
theorem Q_onceD {x y : Operand} {ats : Array TypeId} {id : Nat} {cells : List AV} (hp : st.ev x = .ptr id 3) (ho : st.objs[id]? = some (.box cells)) (hc : cells[3]? = some (.val (.int .u32 1))) :
    QOp Tryd.prog ⟨d, .call ⟨.value (.func 127), #[x, y], ats⟩, ty, pos, af, gd⟩ st (.val (.tuple #[])) := by
  intro _ ρ w a hr
  have h := hr.ev x
  rw [hp] at h
  obtain ⟨b, arr, T', hev, _, hh, _, hcell, hcs⟩ := box_cells hr.good ho h
  obtain ⟨v, h1, h2⟩ := hcs 3 _ hc
  obtain rfl := h2.val_inv
  refine ⟨.tuple #[], .val _, fun w1 hw => ?_⟩
  have h3 : w1.cell? ⟨b, 3, none⟩ = some (.int .u32 1) := by
    rw [hw.cell (p := ⟨b, 3, none⟩) (Array.getElem?_eq_some_iff.1 hh).1, hcell]; exact h1
  unfold Oper.quietAt
  rw [exec_call on_ent (cs := #[]) rfl]
  refine ⟨rfl, ?_⟩
  have e : #[x, y].map a.eval ++ #[] = #[.pointer (some ⟨b, 3, none⟩), a.eval y] := by simp [hev]
  rw [e]
  refine (on_done ⟨b, 3, none⟩ 1 (by decide) (a.eval y) w1 h3).mono ?_
  rintro e w' ⟨rfl, rfl⟩
  exact ⟨rfl, hw⟩
end
theorem good_drew [Zs] {ρ : Ids} {w : World} {objs : List AO} (h : Good ρ w objs) : Good ρ w.drew objs :=
  (RelB.mono (st := ⟨0, [], objs⟩) (a := ⟨#[], []⟩) ⟨fun _ => .any _, rfl, rfl, h⟩ ((Same.drew w fun _ => False).below fun _ _ h => h)).good
section
variable {k : Nat} {cx : Cx k} {ops : Array Oper} {Q : Exit → St → Prop} {rest : List Oper} {ty ty2 : TypeId} {pos pos2 : String} {af af2 : Array Edge} {n : Nat} {vars : List (Nat × AV)} {d1 d2 : Nat} {ats : Array TypeId}
/-- Do that is not done: the method is called. -/
theorem w_once1 [Zs] {x x0 : Operand} {cells cells1 cells2 cells3 : List AV} {o2 : AO} (hx0 : (⟨n, vars, [.box cells]⟩ : St).ev x0 = .ptr 0 0) (hx : (⟨n, vars, [.box cells]⟩ : St).ev x = .ptr 0 3) (hxd : ∀ t, x = .tmp t → Nat.beq d1 t = false) (hc3 : cells[3]? = some (.val (.int .u32 0))) (hc4 : cells[4]? = some (.val (.int .i32 0)))
    (hl : AC Tryd.prog 128 [.ptr 0 0] [.box cells1] (.tup []) [.box cells2, o2]) (he1 : cells.set 4 (.val (.int .i32 1)) = cells1) (he3 : (cells2.set 3 (.val (.int .u32 1))).set 4 (.val (.int .i32 0)) = cells3) (h3 : cells2[3]? = some (.val (.int .u32 0))) (h4 : cells2[4]? = some (.val (.int .i32 1))) (hd1 : Nat.blt d1 n = true) (hd2 : Nat.blt d2 n = true)
    (hk : aL Tryd.prog cx ops Q rest ⟨n, (d2, .val (.tuple #[])) :: (d1, .any) :: vars, [.box cells3, o2]⟩) :
    aL Tryd.prog cx ops Q (⟨some d1, .makeFunc (.func 128) #[x0] #[], ty, pos, af, none⟩ :: ⟨some d2, .call ⟨.value (.func 127), #[x, .tmp d1], ats⟩, ty2, pos2, af2, none⟩ :: rest) ⟨n, vars, [.box cells]⟩ := by
  subst he1; subst he3
  intro a w hr
  obtain ⟨ρ, hb, hf, h0⟩ := hr.base
  have hev0 := hb.ev x0
  rw [hx0] at hev0
  have hevx := hb.ev x
  rw [hx] at hevx
  obtain ⟨b, arr, T', e0, hρ, hh, hsz, hcell, hcs⟩ := box_cells (id := 0) hb.good rfl hev0
  obtain ⟨b', arr', T'', e1, hρ', _, _, _, _⟩ := box_cells (id := 0) hb.good rfl hevx
  obtain rfl : b' = b := by rw [hρ] at hρ'; simpa using hρ'.symm
  obtain ⟨v3, a3, g3⟩ := hcs 3 _ hc3
  obtain rfl := g3.val_inv
  obtain ⟨v4, a4, g4⟩ := hcs 4 _ hc4
  obtain rfl := g4.val_inv
  have hl4 : 4 < cells.length := (List.getElem?_eq_some_iff.1 hc4).1
  obtain ⟨s1, i1, k1⟩ := box_turn hb.good (id := 0) (o := 4) (av := .val (.int .i32 1)) (u := .int .i32 1) rfl hl4 hρ hh hsz hcs (.val _)
  change Good ρ _ [.box (cells.set 4 (.val (.int .i32 1)))] at k1
  have hlay := hl.2 ρ (w.setCell ⟨b', 4, none⟩ (.int .i32 1)) #[.pointer (some ⟨b', 0, none⟩)] k1 rfl (fun i av v h1 h2 => by
    match i, h1, h2 with
    | 0, h1, h2 =>
      simp only [List.getElem?_cons_zero, Option.some.injEq] at h1
      simp at h2
      subst h1 h2
      exact .ptr 0 0 b' [] hρ
    | i + 1, h1, _ => simp at h1)
  -- the method is made
  unfold wpList
  rw [if_pos (by simp [Region.wanted])]
  left
  unfold Oper.wp
  have hmk : (execOp a.eval ⟨some d1, .makeFunc (.func 128) #[x0] #[], ty, pos, af, none⟩).run Tryd.prog w = .ok (.value (.func (.func 128) #[a.eval x0] #[])) w := by simp [execOp, Instr.makeFunc]
  rw [hmk]
  show wpList _ _ _ _ _ _
  have hb1 := hb.put (av := .any) (v := .func (.func 128) #[a.eval x0] #[]) hd1 (.any _)
  unfold wpList
  rw [if_pos (by simp [Region.wanted])]
  left
  unfold Oper.wp
  rw [exec_call on_ent (cs := #[]) rfl]
  have hd1' : d1 < a.tmps.size := by rw [hb.size]; simpa [Nat.blt_eq] using hd1
  have ex : (a.put (some d1) (.func (.func 128) #[a.eval x0] #[])).eval x = .pointer (some ⟨b', 3, none⟩) := by
    have := hb1.ev x
    have e2 : (St.put ⟨n, vars, [.box cells]⟩ d1 .any).ev x = .ptr 0 3 := by
      rw [← hx]
      cases x with
      | tmp t =>
        show getv ((d1, AV.any) :: vars) t = getv vars t
        simp only [getv, hxd t rfl, cond]
      | _ => rfl
    rw [e2] at this
    obtain ⟨b2, _, _, e3, h5, _, _, _, _⟩ := box_cells (id := 0) hb1.good rfl this
    obtain rfl : b2 = b' := by rw [hρ] at h5; simpa using h5.symm
    exact e3
  have ed : (a.put (some d1) (.func (.func 128) #[a.eval x0] #[])).eval (.tmp d1) = .func (.func 128) #[.pointer (some ⟨b', 0, none⟩)] #[] := by
    rw [← e0]
    simp [Act.eval, Act.put, hd1']
  have eargs : #[x, Operand.tmp d1].map (a.put (some d1) (.func (.func 128) #[a.eval x0] #[])).eval ++ #[] = #[.pointer (some ⟨b', 3, none⟩), .func (.func 128) #[.pointer (some ⟨b', 0, none⟩)] #[]] := by
    simp [ex, ed]
  rw [eargs]
  refine (on_first b' w ((hcell 3).trans a3) ((hcell 4).trans a4) (box_frozen hh) (box_frozen hh) (fun w2 => ∃ ρ', Same (Own ρ [.box (cells.set 4 (.val (.int .i32 1)))]) (w.setCell ⟨b', 4, none⟩ (.int .i32 1)) w2 ∧ Good ρ' w2 [.box cells2, o2] ∧ (∀ (id : Nat) l, ρ[id]? = some l → ρ'[id]? = some l) ∧ (∀ b, Own ρ' [.box cells2, o2] b → b < (w.setCell ⟨b', 4, none⟩ (.int .i32 1)).heap.size → Own ρ [.box (cells.set 4 (.val (.int .i32 1)))] b)) ?_ (hlay.mono ?_)).mono ?_
  · rintro w2 ⟨ρ', _, hg, hext, _⟩
    obtain ⟨b2, arr2, T2, q1, q2, q3, q4⟩ := hg.sat 0 _ rfl
    obtain rfl : b2 = b' := by rw [hext 0 _ hρ] at q1; simpa using q1.symm
    obtain ⟨u3, p3, m3⟩ := q4 3 _ h3
    obtain rfl := m3.val_inv
    obtain ⟨u4, p4, m4⟩ := q4 4 _ h4
    obtain rfl := m4.val_inv
    exact ⟨(cell_of_row w2 b2 3 arr2 T2 (0, 0) q2).trans p3, (cell_of_row w2 b2 4 arr2 T2 (0, 0) q2).trans p4, box_frozen q2, box_frozen q2⟩
  · rintro e w2 ⟨v, ρ', rfl, hs, hg, hgm, hext, hown⟩
    obtain ⟨vs, rfl, hl0, _⟩ := hgm.tup_inv
    obtain rfl : vs = #[] := Array.eq_empty_of_size_eq_zero (by simpa using hl0.symm)
    exact ⟨rfl, ρ', hs, hg, hext, hown⟩
  · rintro e w' ⟨rfl, w2, ⟨ρ', hs, hg, hext, hown⟩, rfl⟩
    show wpList _ _ _ _ _ _
    have hg2 := good_drew hg
    have turn : ∀ {w3 : World} {cs : List AV} {o : Nat} {z : Value}, Good ρ' w3 [.box cs, o2] → o < cs.length → Same (Own ρ' [.box cs, o2]) w3 (w3.setCell ⟨b', o, none⟩ z) ∧ (∀ x, Own ρ' [.box (cs.set o (.val z)), o2] x → Own ρ' [.box cs, o2] x) ∧ Good ρ' (w3.setCell ⟨b', o, none⟩ z) [.box (cs.set o (.val z)), o2] := fun {w3 cs o z} hg3 hlt => by
      obtain ⟨b2, arr2, T2, q1, q2, q3, q4⟩ := hg3.sat 0 _ rfl
      obtain rfl : b2 = b' := by rw [hext 0 _ hρ] at q1; simpa using q1.symm
      exact box_turn hg3 (id := 0) (av := .val z) (u := z) rfl hlt q1 q2 q3 q4 (.val _)
    have hlt3 : 3 < cells2.length := (List.getElem?_eq_some_iff.1 h3).1
    have hlt4 : 4 < (cells2.set 3 (.val (.int .u32 1))).length := by rw [List.length_set]; exact (List.getElem?_eq_some_iff.1 h4).1
    obtain ⟨t1, t2, t3⟩ := turn (o := 3) (z := .int .u32 1) hg2 hlt3
    obtain ⟨r1, r2, r3⟩ := turn (o := 4) (z := .int .i32 0) t3 hlt4
    have hsm : Same (Own ρ [.box cells]) w ((w2.drew.setCell ⟨b', 3, none⟩ (.int .u32 1)).setCell ⟨b', 4, none⟩ (.int .i32 0)) := by
      have sA := s1.trans hs fun x _ h => i1 x h
      have sB := sA.trans (Same.drew w2 fun _ => False) fun _ _ h => h.elim
      have sC := sB.trans t1 fun x hx h => i1 x (hown x h (by simpa using hx))
      exact sC.trans r1 fun x hx h => i1 x (hown x (t2 x h) (by simpa using hx))
    have hM : ∀ x, x < w.heap.size → Own ρ' [.box ((cells2.set 3 (.val (.int .u32 1))).set 4 (.val (.int .i32 0))), o2] x → Own ρ [.box cells] x := fun x hx h => i1 x (hown x (t2 x (r2 x h)) (by simpa using hx))
    refine hk _ _ (Rel.step hr hf h0 hsm hext (st2 := ⟨n, (d2, .val (.tuple #[])) :: (d1, .any) :: vars, [.box ((cells2.set 3 (.val (.int .u32 1))).set 4 (.val (.int .i32 0))), o2]⟩) hM (RelB.put (st := ⟨n, (d1, .any) :: vars, [.box ((cells2.set 3 (.val (.int .u32 1))).set 4 (.val (.int .i32 0))), o2]⟩) ⟨fun t => ?_, hb1.size, hb1.defers, r3⟩ hd2 (.val _)))
    exact (hb1.frame t).ext hsm hext hM
end
end Go.Proofs.YtbgecpjlopdkfaaDoor
set_option linter.unusedSimpArgs false
set_option linter.unusedVariables false
set_option linter.unusedSectionVars false
set_option maxRecDepth 20000
namespace Go.Proofs.YtbgecpjlopdkfaaDoor
attribute [local irreducible] QOp aL aC qL
/-- The entry of a table. -/
def ta (t : List (List Nat)) (x y : Nat) : Nat := (t.getD x []).getD y 0
def tn (t : List (List Nat)) : List (List Int) := t.map nl
theorem tn_len (t : List (List Nat)) : (tn t).length = t.length := by simp [tn]
theorem tn_get (t : List (List Nat)) (x : Nat) : (tn t).getD x [] = nl (t.getD x []) := by
  simp only [tn, List.getD_eq_getElem?_getD, List.getElem?_map]
  cases t[x]? <;> rfl
structure Sq (n : Nat) (t : List (List Nat)) : Prop where
  len : t.length = n
  row : ∀ x, x < n → (t.getD x []).length = n
  lt : ∀ x y, x < n → y < n → ta t x y < n
def formB (N : Int) (t : List (List Int)) : Bool := decide ((t.length : Int) = N) && !t.any fun r => decide ((r.length : Int) ≠ N)
def badI (N : Int) (x : Int) : Bool := decide (x < 0 ∨ N ≤ x)
def badR (N : Int) (r : List Int) : Bool := r.any (badI N)
/-- The laws of one table beside the other one. -/
def LawT (n : Nat) (f g : Nat → Nat → Nat) : Prop := ∀ x, x < n → f x x = x ∧ ∀ y, y < n → f x y = f y x ∧ f x (g x y) = x ∧ ∀ z, z < n → f x (f y z) = f (f x y) z
instance (n : Nat) (f g : Nat → Nat → Nat) : Decidable (LawT n f g) := by unfold LawT; infer_instance
def lawB (n : Nat) (f g : Nat → Nat → Nat) : Bool := decide (LawT n f g) && decide (LawT n g f)
def tz (m : List (List Int)) : List (List Nat) := m.map fun r => r.map Int.toNat
def lck (N : Int) (m j : List (List Int)) : Int :=
  if N < 1 ∨ 40 < N then 2 else if (formB N m && formB N j) = false then 1 else if (m ++ j).any (badR N) = true then 3 else if lawB N.toNat (ta (tz m)) (ta (tz j)) = true then 0 else 4
theorem tz_tn (t : List (List Nat)) : tz (tn t) = t := by
  unfold tz tn
  rw [List.map_map]
  conv => rhs; rw [← List.map_id t]
  refine List.map_congr_left fun r _ => ?_
  show (nl r).map Int.toNat = r
  simp [nl, Function.comp_def]
theorem formB_iff {N : Int} {t : List (List Int)} : formB N t = true ↔ (t.length : Int) = N ∧ ∀ x, x < t.length → ((t.getD x []).length : Int) = N := by
  unfold formB
  rw [Bool.and_eq_true, decide_eq_true_eq, Bool.not_eq_true', List.any_eq_false]
  refine and_congr_right fun _ => ⟨fun h x hx => ?_, fun h r hr => ?_⟩
  · have h1 := h (t.getD x []) (by rw [List.getD_eq_getElem?_getD, List.getElem?_eq_getElem hx]; exact List.getElem_mem hx)
    simpa using h1
  · obtain ⟨i, hi, rfl⟩ := List.getElem_of_mem hr
    have h1 := h i hi
    rw [List.getD_eq_getElem?_getD, List.getElem?_eq_getElem hi] at h1
    simpa using h1
theorem badR_iff {N : Int} {r : List Int} : badR N r = true ↔ ∃ y, y < r.length ∧ (r.getD y 0 < 0 ∨ N ≤ r.getD y 0) := by
  unfold badR badI
  rw [List.any_eq_true]
  constructor
  · rintro ⟨x, hx, h⟩
    obtain ⟨i, hi, rfl⟩ := List.getElem_of_mem hx
    refine ⟨i, hi, ?_⟩
    rw [List.getD_eq_getElem?_getD, List.getElem?_eq_getElem hi]
    simpa using h
  · rintro ⟨y, hy, h⟩
    refine ⟨r[y], List.getElem_mem hy, ?_⟩
    rw [List.getD_eq_getElem?_getD, List.getElem?_eq_getElem hy] at h
    simpa using h
theorem bad_iff {N : Int} {t : List (List Int)} : t.any (badR N) = true ↔ ∃ x, x < t.length ∧ ∃ y, y < (t.getD x []).length ∧ ((t.getD x []).getD y 0 < 0 ∨ N ≤ (t.getD x []).getD y 0) := by
  rw [List.any_eq_true]
  constructor
  · rintro ⟨r, hr, h⟩
    obtain ⟨i, hi, rfl⟩ := List.getElem_of_mem hr
    refine ⟨i, hi, ?_⟩
    rw [List.getD_eq_getElem?_getD, List.getElem?_eq_getElem hi]
    exact badR_iff.1 h
  · rintro ⟨x, hx, h⟩
    refine ⟨t[x], List.getElem_mem hx, ?_⟩
    rw [List.getD_eq_getElem?_getD, List.getElem?_eq_getElem hx] at h
    exact badR_iff.2 h
theorem sq_of {n : Nat} {m : List (List Int)} (hf : formB n m = true) (hv : ∀ x y, x < n → y < n → 0 ≤ (m.getD x []).getD y 0 ∧ (m.getD x []).getD y 0 < n) : ∃ M, m = tn M ∧ Sq n M := by
  obtain ⟨h1, h2⟩ := formB_iff.1 hf
  have hl : m.length = n := by omega
  have hr : ∀ x, x < n → (m.getD x []).length = n := fun x hx => by have := h2 x (by omega); omega
  have hpos : ∀ r ∈ m, ∀ x ∈ r, 0 ≤ x := fun r hr' x hx => by
    obtain ⟨i, hi, rfl⟩ := List.getElem_of_mem hr'
    obtain ⟨k, hk, rfl⟩ := List.getElem_of_mem hx
    have h3 := hr i (by omega)
    have e : m.getD i [] = m[i] := by rw [List.getD_eq_getElem?_getD, List.getElem?_eq_getElem hi]; rfl
    rw [e] at h3
    have h4 := (hv i k (by omega) (by omega)).1
    rw [e, List.getD_eq_getElem?_getD, List.getElem?_eq_getElem hk] at h4
    exact h4
  have he : m = tn (tz m) := by
    unfold tn tz
    rw [List.map_map]
    conv => lhs; rw [← List.map_id m]
    refine List.map_congr_left fun r hr' => ?_
    exact nl_of (hpos r hr')
  refine ⟨tz m, he, by unfold tz; rw [List.length_map]; exact hl, fun x hx => ?_, fun x y hx hy => ?_⟩
  · have := hr x hx
    rw [he, tn_get, nl_len] at this
    exact this
  · have := (hv x y hx hy).2
    rw [he, tn_get, nl_get] at this
    unfold ta
    omega
theorem sq_form {n : Nat} {M : List (List Nat)} (h : Sq n M) : formB n (tn M) = true := formB_iff.2 ⟨by rw [tn_len, h.len], fun x hx => by
  rw [tn_len, h.len] at hx
  rw [tn_get, nl_len, h.row x hx]⟩
theorem sq_good {n : Nat} {M : List (List Nat)} (h : Sq n M) : (tn M).any (badR n) = false := by
  rw [Bool.eq_false_iff]
  intro hb
  obtain ⟨x, hx, y, hy, hc⟩ := bad_iff.1 hb
  rw [tn_len, h.len] at hx
  rw [tn_get, nl_len, h.row x hx] at hy
  have := h.lt x y hx hy
  rw [tn_get, nl_get] at hc
  unfold ta at this
  omega
theorem lck_tn {n : Nat} {M J : List (List Nat)} (h1 : 1 ≤ n) (h2 : n ≤ 40) (hM : Sq n M) (hJ : Sq n J) : lck n (tn M) (tn J) = if lawB n (ta M) (ta J) = true then 0 else 4 := by
  unfold lck
  rw [if_neg (by omega), sq_form hM, sq_form hJ, if_neg (by decide), List.any_append, sq_good hM, sq_good hJ, if_neg (by decide), tz_tn, tz_tn]
  rfl
end Go.Proofs.YtbgecpjlopdkfaaDoor
