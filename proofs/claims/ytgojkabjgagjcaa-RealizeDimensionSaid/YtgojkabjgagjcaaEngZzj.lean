import Derived.Test.YtgojkabjgagjcaaCd
import Derived.Test.YtgojkabjgagjcaaEngZf
import Derived.Test.YtgojkabjgagjcaaEngZd
set_option linter.unusedSimpArgs false
set_option linter.unusedVariables false
set_option linter.unusedSectionVars false
set_option maxRecDepth 20000
namespace Go.Proofs.Ytgojkabjgagjcaa
attribute [local irreducible] QOp aL aC qL
/-- Which pairs: those of classes, and one more. -/
def RC (n : Nat) (c : List Nat) (x y : Nat) (a b : Nat) : Prop := (a < n ∧ b < n ∧ c.getD a 0 = c.getD b 0) ∨ (a = x ∧ b = y)
theorem LI.start {n : Nat} {f g : Nat → Nat → Nat} {c : List Nat} {x y : Nat} (hl : c.length = n) (hlt : ∀ i, i < n → c.getD i 0 < n) (hx : x < n) (hy : y < n) : LI n f g (RC n c x y) (rlN (c.getD x 0) (c.getD y 0) c) where
  len := by rw [rlN_len]; exact hl
  lt := fun i hi => rlN_lt (n := n) (hlt x hx) (fun i hi => hlt i (by omega)) i (by rw [rlN_len]; omega)
  has := fun a b h => by
    rcases h with ⟨ha, hb, e⟩ | ⟨rfl, rfl⟩
    · exact rlN_keep (by omega) (by omega) e
    · exact rlN_join (by omega) (by omega)
  least := fun d hd hR a ha b hb e => by
    have key : ∀ u v, u < n → v < n → c.getD u 0 = c.getD v 0 → d.getD u 0 = d.getD v 0 := fun u v hu hv h => hR u v (.inl ⟨hu, hv, h⟩)
    have hxy : d.getD x 0 = d.getD y 0 := hR x y (.inr ⟨rfl, rfl⟩)
    rcases rlN_split (by omega) (by omega) e with h | ⟨h1, h2⟩ | ⟨h1, h2⟩
    · exact key a b ha hb h
    · exact ((key a x ha hx h1).trans hxy).trans (key y b hy hb h2.symm)
    · exact ((key a y ha hy h1).trans hxy.symm).trans (key x b hx hb h2.symm)
/-- How far a pass is. -/
structure PIc (n : Nat) (f g : Nat → Nat → Nat) (R : Nat → Nat → Prop) (cs : List Nat) (D : Prop) (c : List Nat) (ag : Bool) : Prop where
  li : LI n f g R c
  no : ag = false → c = cs ∧ D
  yes : ag = true → clsN n c < clsN n cs
theorem PIc.to {n : Nat} {f g : Nat → Nat → Nat} {R : Nat → Nat → Prop} {cs : List Nat} {D D' : Prop} {c : List Nat} {ag : Bool} (h : PIc n f g R cs D c ag) (hd : c = cs → D → D') : PIc n f g R cs D' c ag :=
  ⟨h.li, fun e => ⟨(h.no e).1, hd (h.no e).1 (h.no e).2⟩, h.yes⟩
theorem PIc.le {n : Nat} {f g : Nat → Nat → Nat} {R : Nat → Nat → Prop} {cs : List Nat} {D : Prop} {c : List Nat} {ag : Bool} (h : PIc n f g R cs D c ag) : clsN n c ≤ clsN n cs := by
  cases ag with
  | false => rw [(h.no rfl).1]; exact Nat.le_refl _
  | true => exact Nat.le_of_lt (h.yes rfl)
theorem PIc.merge {n : Nat} {f g : Nat → Nat → Nat} {R : Nat → Nat → Prop} {cs : List Nat} {D D' : Prop} {c : List Nat} {ag : Bool} (h : PIc n f g R cs D c ag) (hR : ∀ x y, R x y → x < n ∧ y < n) {a b : Nat} (ha : a < n) (hb : b < n) (hne : c.getD a 0 ≠ c.getD b 0)
    (hab : ∀ d : List Nat, Cpt n f g d → (∀ x y, R x y → d.getD x 0 = d.getD y 0) → d.getD a 0 = d.getD b 0) : PIc n f g R cs D' (rlN (c.getD a 0) (c.getD b 0) c) true := by
  have hl := h.li.len
  refine ⟨h.li.merge hR ha hb hab, fun e => (by cases e), fun _ => ?_⟩
  exact Nat.lt_of_lt_of_le (clsN_rl (getD_mem0 (by omega)) (getD_mem0 (by omega)) (h.li.lt b hb) hne) h.le
abbrev okA (n : Nat) (f g : Nat → Nat → Nat) (c : List Nat) (a b : Nat) : Prop := c.getD a 0 = c.getD b 0 → ∀ z, z < n → okz f g c a b z
attribute [local irreducible] FOp POp hL xH
end Go.Proofs.Ytgojkabjgagjcaa
set_option linter.unusedSimpArgs false
set_option linter.unusedVariables false
set_option linter.unusedSectionVars false
namespace Go.Proofs.Ytgojkabjgagjcaa
open Go.RowKit
section
variable {P : Program} {k : Nat} {cx : Cx k} {ops : Array Oper} {Q : Exit → St → Prop} {st : St} {rest : List Oper} {ty : TypeId} {pos : String} {af : Array Edge}
/-- s[:k] where s is an own row; it is spent. -/
theorem l_cutK [Zs] {d : Tmp} {T e : TypeId} {sz id kk : Nat} {i : Int} {x hi : Operand} {cs : List Dat} (hx : st.ev x = .own id) (ho : st.objs[id]? = some (.row e sz cs)) (hi' : st.ev hi = .val (.int .i64 i)) (hik : i = (kk : Int)) (hle : kk * sz ≤ cs.length) (hsz : 0 < sz) (ht : SlT P T e sz) (hd : Nat.blt d st.n = true)
    (hk : aL P cx ops Q rest (((st.set id .gone).add (.row e sz (cs.take (kk * sz)))).put d (.own st.objs.length))) : aL P cx ops Q (⟨some d, .slice T x none (some hi) none, ty, pos, af, none⟩ :: rest) st := by
  refine l_step (st2 := (st.set id .gone).add (.row e sz (cs.take (kk * sz)))) (av := .own st.objs.length) hd rfl ?_ rfl hk
  intro ρ w a hb
  have hg := hb.ev x
  rw [hx] at hg
  obtain ⟨v, n', us, h1, h2, h3, h4⟩ := hb.good.sat id _ ho
  obtain ⟨l, hl⟩ := hg.own_inv
  rw [h1] at hl
  obtain ⟨hv, rfl⟩ := List.cons.inj (Option.some.inj hl)
  have hid := (List.getElem?_eq_some_iff.1 ho).1
  have hdrop := hb.good.drop id
  obtain ⟨t1, t2⟩ := slT_elemJ ht
  have hz : (sizeOf (P.elem T)).run P w = .ok sz w := by rw [t1]; exact ht.2.run w
  have hkn : kk * sz ≤ n' * sz := by have h21 := h2.1; rw [← h21, h3]; exact hle
  have hkn' : kk ≤ n' := Nat.le_of_mul_le_mul_right hkn hsz
  subst hik
  have hres : ∃ v', (execOp a.eval ⟨some d, .slice T x none (some hi) none, ty, pos, af, none⟩).run P w = .ok (.value v') w ∧ w.ownsRow 0 e sz v' kk (us.take (kk * sz)) ∧ (∀ b, ablk v' = some b → ablk v = some b) ∧ v'.oneCell' = true := by
    have e2 := hb.evv hi'
    have hlen : (us.take (kk * sz)).length = kk * sz := by rw [List.length_take, h3]; omega
    rcases h2.2 with ⟨hvn, hn⟩ | ⟨b, cap, cur, hvn, hbase, hh, hnc, hcm, hcs, htk⟩
    · have e1 : a.eval x = .slice none 0 0 := hv.symm.trans hvn
      obtain rfl : kk = 0 := by omega
      refine ⟨.slice none 0 0, ?_, ⟨hlen, .inl ⟨rfl, rfl⟩⟩, fun b hb' => (by cases hb'), rfl⟩
      simp only [execOp, e1, e2, Option.map, run_sliceAt_slice w T _ _ _ _ t2, Sem.run_bind, run_slice_h w T none 0 0 t2 .i64 (((0 : Nat) : Nat) : Int) (by omega) (by omega), hz, Result.andThen_ok, Sem.run_pure]
      rfl
    · have e1 : a.eval x = .slice (some ⟨b, 0, none⟩) n' cap := hv.symm.trans hvn
      refine ⟨.slice (some ⟨b, 0, none⟩) kk cap, ?_, ⟨hlen, .inr ⟨b, cap, cur, rfl, hbase, hh, by omega, hcm, hcs, by rw [← htk, List.take_take, Nat.min_eq_left hkn]⟩⟩, fun b' hb' => (by rw [hvn]; exact hb'), rfl⟩
      simp only [execOp, e1, e2, Option.map, run_sliceAt_slice w T _ _ _ _ t2, Sem.run_bind, run_slice_h w T (some ⟨b, 0, none⟩) n' cap t2 .i64 (kk : Int) (by omega) (by omega), hz, Result.andThen_ok, Sem.run_pure, sliced]
      simp [Addr.add]
  obtain ⟨v', hrun, how, hblk, hone'⟩ := hres
  have hlenρ : ρ.length = (st.objs.set id .gone).length := by simp [hb.good.len]
  have hlast : ∀ id' b, (st.objs.set id .gone).length ≤ id' → foot (ρ ++ [[v']]) (st.objs.set id .gone ++ [.row e sz (cs.take (kk * sz))]) id' b → id' = (st.objs.set id .gone).length ∧ ablk v' = some b := by
    rintro id' b h ⟨o', l, h5, _, h6, u, h7, h8⟩
    have hlt := (List.getElem?_eq_some_iff.1 h5).1
    simp at hlt h
    obtain rfl : id' = st.objs.length := by omega
    rw [show st.objs.length = (st.objs.set id .gone).length by simp, new_id hlenρ] at h6
    obtain rfl := Option.some.inj h6
    obtain rfl := List.mem_singleton.1 h7
    exact ⟨by simp, h8⟩
  have hM : ∀ b, b < w.heap.size → Own (ρ ++ [[v']]) (st.objs.set id .gone ++ [.row e sz (cs.take (kk * sz))]) b → Own ρ st.objs b := by
    rintro b hlt ⟨id', h⟩
    rcases foot_app hlenρ h with ⟨_, h⟩ | ⟨h5, h6⟩
    · exact hdrop.2 b ⟨id', h⟩
    · exact ⟨id, _, _, ho, rfl, h1, v, List.mem_singleton.2 rfl, hblk b (hlast id' b h5 h6).2⟩
  have hnew : (ρ ++ [[v']])[st.objs.length]? = some [v'] := new_id hb.good.len _
  have hsm : Same (Own ρ st.objs) w w := Same.refl _ _
  refine ⟨v', w, ρ ++ [[v']], hrun, hsm, ext_app ρ _, hM, ⟨by simp [St.add, St.set, hb.good.len], ?_, ?_, fun id' b h hz => ?_, fun b hz => hb.good.zl b hz, hb.good.tt.step hsm hM⟩, .own _ _ [] hnew hone'⟩
  rotate_left 2
  · by_cases hlt : b < w.heap.size
    · obtain ⟨id2, h2'⟩ := hM b hlt ⟨id', h⟩
      exact hb.good.zf id2 b h2' hz
    · exact hlt (hb.good.zl b hz)
  · intro id' o' ho'
    show SatO _ _ (Ban _ (st.objs.set id .gone ++ [.row e sz (cs.take (kk * sz))])) id' o'
    change (st.objs.set id .gone ++ [.row e sz (cs.take (kk * sz))])[id']? = some o' at ho'
    by_cases hlt : id' < st.objs.length
    · rw [List.getElem?_append_left (by simpa using hlt)] at ho'
      by_cases he : id' = id
      · subst he
        rw [List.getElem?_set_self hid] at ho'
        obtain rfl := Option.some.inj ho'
        trivial
      · rw [List.getElem?_set_ne (Ne.symm he)] at ho'
        exact (hb.good.sat id' o' ho').keep hsm (ext_app ρ _) hM fun l' u b h5 h6 h7 hbl => rfl
    · rw [List.getElem?_append_right (by simpa using hlt)] at ho'
      have hlt2 := (List.getElem?_eq_some_iff.1 ho').1
      simp at hlt2
      obtain rfl : id' = st.objs.length := by omega
      simp at ho'
      subst ho'
      refine sat_row hnew how (by rw [List.length_take, List.length_take, h3]) fun j dt hj => ?_
      rw [List.getElem?_take] at hj
      split at hj
      · rename_i hjk
        obtain ⟨u, hu, hr⟩ := h4 j dt hj
        refine ⟨u, by rw [List.getElem?_take, if_pos hjk]; exact hu, hr.mono hsm.ban fun b hb' hbn => ?_⟩
        rcases hbn with hbn | hbn
        · exact .inl (hM b hb' hbn)
        · exact .inr hbn
      · cases hj
  · intro i j b hi hj
    change foot _ (st.objs.set id .gone ++ [.row e sz (cs.take (kk * sz))]) i b at hi
    change foot _ (st.objs.set id .gone ++ [.row e sz (cs.take (kk * sz))]) j b at hj
    have old : ∀ {i b}, foot ρ (st.objs.set id .gone) i b → ablk v' = some b → False := by
      intro i b h5 h6
      rcases foot_set hid h5 with ⟨_, h, _⟩ | ⟨hne, h7⟩
      · cases h
      · exact hne (hb.good.dis i id b h7 ⟨_, _, ho, rfl, h1, v, List.mem_singleton.2 rfl, hblk b h6⟩)
    rcases foot_app hlenρ hi with ⟨_, a2⟩ | ⟨a1, a2⟩ <;> rcases foot_app hlenρ hj with ⟨_, b2⟩ | ⟨b1, b2⟩
    · exact hdrop.1.dis i j b a2 b2
    · exact (old a2 (hlast j b b1 b2).2).elim
    · exact (old b2 (hlast i b a1 a2).2).elim
    · exact (hlast i b a1 a2).1.trans (hlast j b b1 b2).1.symm
end
section
variable {P : Program} {k : Nat} {cx : Cx k} {ops : Array Oper} {Q : Exit → St → Prop} {rest : List Oper} {ty : TypeId} {pos : String} {af : Array Edge} {n : Nat} {vars : List (Nat × AV)} {objs objs' : List AO} {d m : Nat}
theorem pairc_takeK (l : List (Int × Int)) : ∀ k, (pairc l).take (k * 2) = pairc (l.take k) := by
  induction l with
  | nil => intro k; simp [pairc]
  | cons p r ih =>
    intro k
    cases k with
    | zero => simp [pairc]
    | succ k =>
      have := ih k
      rw [show (k + 1) * 2 = k * 2 + 1 + 1 by omega]
      simp only [pairc, List.take_succ_cons, this]
/-- s[:k], s an own row of pairs. -/
theorem w_cutP [Zs] {T e : TypeId} {id kk : Nat} {i : Int} {x hi : Operand} {l r : List (Int × Int)} (hx : (⟨n, vars, objs⟩ : St).ev x = .own id) (hob : objs[id]? = some (.row e 2 (pairc l))) (hi' : (⟨n, vars, objs⟩ : St).ev hi = .val (.int .i64 i)) (hik : i = (kk : Int)) (hle : kk ≤ l.length) (hr : l.take kk = r) (ht : SlT P T e 2)
    (ho : objs.set id .gone ++ [.row e 2 (pairc r)] = objs') (hm : objs.length = m) (hd : Nat.blt d n = true) (hk : aL P cx ops Q rest ⟨n, (d, .own m) :: vars, objs'⟩) :
    aL P cx ops Q (⟨some d, .slice T x none (some hi) none, ty, pos, af, none⟩ :: rest) ⟨n, vars, objs⟩ := by
  subst ho; subst hm; subst hr
  refine l_cutK (kk := kk) hx hob hi' hik (by rw [pairc_len]; omega) (by decide) ht hd ?_
  rw [pairc_takeK]
  exact hk
end
section
variable {P : Program} {st : St} {d : Option Tmp} {ty : TypeId} {pos : String} {af : Array Edge} {g : Option (Nat × Bool)}
def ptabc (l : List (List (Int × Int))) : List Dat := l.map fun t => .sl 2 (pairc t)
def ptabs (l : List (List (Int × Int))) : AV := .ro (.sl 1 (ptabc l))
end
end Go.Proofs.Ytgojkabjgagjcaa
