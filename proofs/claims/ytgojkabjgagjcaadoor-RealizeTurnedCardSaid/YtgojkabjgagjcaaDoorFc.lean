import Derived.Test.YtgojkabjgagjcaaDoorCd
import Derived.Test.YtgojkabjgagjcaaDoorEngZf
import Derived.Test.YtgojkabjgagjcaaDoorEngZd
import Derived.Test.YtgojkabjgagjcaaDoorCa
set_option linter.unusedSimpArgs false
set_option linter.unusedVariables false
set_option linter.unusedSectionVars false
set_option maxRecDepth 20000
namespace Go.Proofs.YtgojkabjgagjcaaDoor
attribute [local irreducible] QOp aL aC qL
/-- Which pairs: those of classes, and one more. -/
def RC (n : Nat) (c : List Nat) (x y : Nat) (a b : Nat) : Prop := (a < n ∧ b < n ∧ c.getD a 0 = c.getD b 0) ∨ (a = x ∧ b = y)
theorem LI.start {n : Nat} {f g : Nat → Nat → Nat} {c : List Nat} {x y : Nat} (hl : c.length = n) (hlt : ∀ i, i < n → c.getD i 0 < n) (hx : x < n) (hy : y < n) : LI n f g (RC n c x y) (rlN (c.getD x 0) (c.getD y 0) c) where
  len := by rw [rlN_len]; exact hl
  lt := fun i hi => rlN_lt (n := n) (hlt x hx) (fun i hi => hlt i (by omega)) i (by rw [rlN_len]; omega)
  has := fun a b h => by
    rcases h with ⟨ha, hb, e⟩ | ⟨rfl, rfl⟩
    · exact rlN_keep (by omega) (by omega) e
    · exact rlN_join (by omega) (by omega)
  least := fun d hd hR a ha b hb e => by
    have key : ∀ u v, u < n → v < n → c.getD u 0 = c.getD v 0 → d.getD u 0 = d.getD v 0 := fun u v hu hv h => hR u v (.inl ⟨hu, hv, h⟩)
    have hxy : d.getD x 0 = d.getD y 0 := hR x y (.inr ⟨rfl, rfl⟩)
    rcases rlN_split (by omega) (by omega) e with h | ⟨h1, h2⟩ | ⟨h1, h2⟩
    · exact key a b ha hb h
    · exact ((key a x ha hx h1).trans hxy).trans (key y b hy hb h2.symm)
    · exact ((key a y ha hy h1).trans hxy.symm).trans (key x b hx hb h2.symm)
/-- How far a pass is. -/
structure PIc (n : Nat) (f g : Nat → Nat → Nat) (R : Nat → Nat → Prop) (cs : List Nat) (D : Prop) (c : List Nat) (ag : Bool) : Prop where
  li : LI n f g R c
  no : ag = false → c = cs ∧ D
  yes : ag = true → clsN n c < clsN n cs
theorem PIc.to {n : Nat} {f g : Nat → Nat → Nat} {R : Nat → Nat → Prop} {cs : List Nat} {D D' : Prop} {c : List Nat} {ag : Bool} (h : PIc n f g R cs D c ag) (hd : c = cs → D → D') : PIc n f g R cs D' c ag :=
  ⟨h.li, fun e => ⟨(h.no e).1, hd (h.no e).1 (h.no e).2⟩, h.yes⟩
theorem PIc.le {n : Nat} {f g : Nat → Nat → Nat} {R : Nat → Nat → Prop} {cs : List Nat} {D : Prop} {c : List Nat} {ag : Bool} (h : PIc n f g R cs D c ag) : clsN n c ≤ clsN n cs := by
  cases ag with
  | false => rw [(h.no rfl).1]; exact Nat.le_refl _
  | true => exact Nat.le_of_lt (h.yes rfl)
theorem PIc.merge {n : Nat} {f g : Nat → Nat → Nat} {R : Nat → Nat → Prop} {cs : List Nat} {D D' : Prop} {c : List Nat} {ag : Bool} (h : PIc n f g R cs D c ag) (hR : ∀ x y, R x y → x < n ∧ y < n) {a b : Nat} (ha : a < n) (hb : b < n) (hne : c.getD a 0 ≠ c.getD b 0)
    (hab : ∀ d : List Nat, Cpt n f g d → (∀ x y, R x y → d.getD x 0 = d.getD y 0) → d.getD a 0 = d.getD b 0) : PIc n f g R cs D' (rlN (c.getD a 0) (c.getD b 0) c) true := by
  have hl := h.li.len
  refine ⟨h.li.merge hR ha hb hab, fun e => (by cases e), fun _ => ?_⟩
  exact Nat.lt_of_lt_of_le (clsN_rl (getD_mem0 (by omega)) (getD_mem0 (by omega)) (h.li.lt b hb) hne) h.le
abbrev okA (n : Nat) (f g : Nat → Nat → Nat) (c : List Nat) (a b : Nat) : Prop := c.getD a 0 = c.getD b 0 → ∀ z, z < n → okz f g c a b z
attribute [local irreducible] FOp POp hL xH
end Go.Proofs.YtgojkabjgagjcaaDoor
set_option linter.unusedSimpArgs false
set_option linter.unusedVariables false
set_option linter.unusedSectionVars false
namespace Go.Proofs.YtgojkabjgagjcaaDoor
open Go.RowKit
section
variable {P : Program} {k : Nat} {cx : Cx k} {ops : Array Oper} {Q : Exit → St → Prop} {st : St} {rest : List Oper} {ty : TypeId} {pos : String} {af : Array Edge}
/-- s[:k] where s is an own row; it is spent. -/
theorem l_cutK [Zs] {d : Tmp} {T e : TypeId} {sz id kk : Nat} {i : Int} {x hi : Operand} {cs : List Dat} (hx : st.ev x = .own id) (ho : st.objs[id]? = some (.row e sz cs)) (hi' : st.ev hi = .val (.int .i64 i)) (hik : i = (kk : Int)) (hle : kk * sz ≤ cs.length) (hsz : 0 < sz) (ht : SlT P T e sz) (hd : Nat.blt d st.n = true)
    (hk : aL P cx ops Q rest (((st.set id .gone).add (.row e sz (cs.take (kk * sz)))).put d (.own st.objs.length))) : aL P cx ops Q (⟨some d, .slice T x none (some hi) none, ty, pos, af, none⟩ :: rest) st := by
  refine l_step (st2 := (st.set id .gone).add (.row e sz (cs.take (kk * sz)))) (av := .own st.objs.length) hd rfl ?_ rfl hk
  intro ρ w a hb
  have hg := hb.ev x
  rw [hx] at hg
  obtain ⟨v, n', us, h1, h2, h3, h4⟩ := hb.good.sat id _ ho
  obtain ⟨l, hl⟩ := hg.own_inv
  rw [h1] at hl
  obtain ⟨hv, rfl⟩ := List.cons.inj (Option.some.inj hl)
  have hid := (List.getElem?_eq_some_iff.1 ho).1
  have hdrop := hb.good.drop id
  obtain ⟨t1, t2⟩ := slT_elemJ ht
  have hz : (sizeOf (P.elem T)).run P w = .ok sz w := by rw [t1]; exact ht.2.run w
  have hkn : kk * sz ≤ n' * sz := by have h21 := h2.1; rw [← h21, h3]; exact hle
  have hkn' : kk ≤ n' := Nat.le_of_mul_le_mul_right hkn hsz
  subst hik
  have hres : ∃ v', (execOp a.eval ⟨some d, .slice T x none (some hi) none, ty, pos, af, none⟩).run P w = .ok (.value v') w ∧ w.ownsRow 0 e sz v' kk (us.take (kk * sz)) ∧ (∀ b, ablk v' = some b → ablk v = some b) ∧ v'.oneCell' = true := by
    have e2 := hb.evv hi'
    have hlen : (us.take (kk * sz)).length = kk * sz := by rw [List.length_take, h3]; omega
    rcases h2.2 with ⟨hvn, hn⟩ | ⟨b, cap, cur, hvn, hbase, hh, hnc, hcm, hcs, htk⟩
    · have e1 : a.eval x = .slice none 0 0 := hv.symm.trans hvn
      obtain rfl : kk = 0 := by omega
      refine ⟨.slice none 0 0, ?_, ⟨hlen, .inl ⟨rfl, rfl⟩⟩, fun b hb' => (by cases hb'), rfl⟩
      simp only [execOp, e1, e2, Option.map, run_sliceAt_slice w T _ _ _ _ t2, Sem.run_bind, run_slice_h w T none 0 0 t2 .i64 (((0 : Nat) : Nat) : Int) (by omega) (by omega), hz, Result.andThen_ok, Sem.run_pure]
      rfl
    · have e1 : a.eval x = .slice (some ⟨b, 0, none⟩) n' cap := hv.symm.trans hvn
      refine ⟨.slice (some ⟨b, 0, none⟩) kk cap, ?_, ⟨hlen, .inr ⟨b, cap, cur, rfl, hbase, hh, by omega, hcm, hcs, by rw [← htk, List.take_take, Nat.min_eq_left hkn]⟩⟩, fun b' hb' => (by rw [hvn]; exact hb'), rfl⟩
      simp only [execOp, e1, e2, Option.map, run_sliceAt_slice w T _ _ _ _ t2, Sem.run_bind, run_slice_h w T (some ⟨b, 0, none⟩) n' cap t2 .i64 (kk : Int) (by omega) (by omega), hz, Result.andThen_ok, Sem.run_pure, sliced]
      simp [Addr.add]
  obtain ⟨v', hrun, how, hblk, hone'⟩ := hres
  have hlenρ : ρ.length = (st.objs.set id .gone).length := by simp [hb.good.len]
  have hlast : ∀ id' b, (st.objs.set id .gone).length ≤ id' → foot (ρ ++ [[v']]) (st.objs.set id .gone ++ [.row e sz (cs.take (kk * sz))]) id' b → id' = (st.objs.set id .gone).length ∧ ablk v' = some b := by
    rintro id' b h ⟨o', l, h5, _, h6, u, h7, h8⟩
    have hlt := (List.getElem?_eq_some_iff.1 h5).1
    simp at hlt h
    obtain rfl : id' = st.objs.length := by omega
    rw [show st.objs.length = (st.objs.set id .gone).length by simp, new_id hlenρ] at h6
    obtain rfl := Option.some.inj h6
    obtain rfl := List.mem_singleton.1 h7
    exact ⟨by simp, h8⟩
  have hM : ∀ b, b < w.heap.size → Own (ρ ++ [[v']]) (st.objs.set id .gone ++ [.row e sz (cs.take (kk * sz))]) b → Own ρ st.objs b := by
    rintro b hlt ⟨id', h⟩
    rcases foot_app hlenρ h with ⟨_, h⟩ | ⟨h5, h6⟩
    · exact hdrop.2 b ⟨id', h⟩
    · exact ⟨id, _, _, ho, rfl, h1, v, List.mem_singleton.2 rfl, hblk b (hlast id' b h5 h6).2⟩
  have hnew : (ρ ++ [[v']])[st.objs.length]? = some [v'] := new_id hb.good.len _
  have hsm : Same (Own ρ st.objs) w w := Same.refl _ _
  refine ⟨v', w, ρ ++ [[v']], hrun, hsm, ext_app ρ _, hM, ⟨by simp [St.add, St.set, hb.good.len], ?_, ?_, fun id' b h hz => ?_, fun b hz => hb.good.zl b hz, hb.good.tt.step hsm hM⟩, .own _ _ [] hnew hone'⟩
  rotate_left 2
  · by_cases hlt : b < w.heap.size
    · obtain ⟨id2, h2'⟩ := hM b hlt ⟨id', h⟩
      exact hb.good.zf id2 b h2' hz
    · exact hlt (hb.good.zl b hz)
  · intro id' o' ho'
    show SatO _ _ (Ban _ (st.objs.set id .gone ++ [.row e sz (cs.take (kk * sz))])) id' o'
    change (st.objs.set id .gone ++ [.row e sz (cs.take (kk * sz))])[id']? = some o' at ho'
    by_cases hlt : id' < st.objs.length
    · rw [List.getElem?_append_left (by simpa using hlt)] at ho'
      by_cases he : id' = id
      · subst he
        rw [List.getElem?_set_self hid] at ho'
        obtain rfl := Option.some.inj ho'
        trivial
      · rw [List.getElem?_set_ne (Ne.symm he)] at ho'
        exact (hb.good.sat id' o' ho').keep hsm (ext_app ρ _) hM fun l' u b h5 h6 h7 hbl => rfl
    · rw [List.getElem?_append_right (by simpa using hlt)] at ho'
      have hlt2 := (List.getElem?_eq_some_iff.1 ho').1
      simp at hlt2
      obtain rfl : id' = st.objs.length := by omega
      simp at ho'
      subst ho'
      refine sat_row hnew how (by rw [List.length_take, List.length_take, h3]) fun j dt hj => ?_
      rw [List.getElem?_take] at hj
      split at hj
      · rename_i hjk
        obtain ⟨u, hu, hr⟩ := h4 j dt hj
        refine ⟨u, by rw [List.getElem?_take, if_pos hjk]; exact hu, hr.mono hsm.ban fun b hb' hbn => ?_⟩
        rcases hbn with hbn | hbn
        · exact .inl (hM b hb' hbn)
        · exact .inr hbn
      · cases hj
  · intro i j b hi hj
    change foot _ (st.objs.set id .gone ++ [.row e sz (cs.take (kk * sz))]) i b at hi
    change foot _ (st.objs.set id .gone ++ [.row e sz (cs.take (kk * sz))]) j b at hj
    have old : ∀ {i b}, foot ρ (st.objs.set id .gone) i b → ablk v' = some b → False := by
      intro i b h5 h6
      rcases foot_set hid h5 with ⟨_, h, _⟩ | ⟨hne, h7⟩
      · cases h
      · exact hne (hb.good.dis i id b h7 ⟨_, _, ho, rfl, h1, v, List.mem_singleton.2 rfl, hblk b h6⟩)
    rcases foot_app hlenρ hi with ⟨_, a2⟩ | ⟨a1, a2⟩ <;> rcases foot_app hlenρ hj with ⟨_, b2⟩ | ⟨b1, b2⟩
    · exact hdrop.1.dis i j b a2 b2
    · exact (old a2 (hlast j b b1 b2).2).elim
    · exact (old b2 (hlast i b a1 a2).2).elim
    · exact (hlast i b a1 a2).1.trans (hlast j b b1 b2).1.symm
end
section
variable {P : Program} {k : Nat} {cx : Cx k} {ops : Array Oper} {Q : Exit → St → Prop} {rest : List Oper} {ty : TypeId} {pos : String} {af : Array Edge} {n : Nat} {vars : List (Nat × AV)} {objs objs' : List AO} {d m : Nat}
theorem pairc_takeK (l : List (Int × Int)) : ∀ k, (pairc l).take (k * 2) = pairc (l.take k) := by
  induction l with
  | nil => intro k; simp [pairc]
  | cons p r ih =>
    intro k
    cases k with
    | zero => simp [pairc]
    | succ k =>
      have := ih k
      rw [show (k + 1) * 2 = k * 2 + 1 + 1 by omega]
      simp only [pairc, List.take_succ_cons, this]
/-- s[:k], s an own row of pairs. -/
theorem w_cutP [Zs] {T e : TypeId} {id kk : Nat} {i : Int} {x hi : Operand} {l r : List (Int × Int)} (hx : (⟨n, vars, objs⟩ : St).ev x = .own id) (hob : objs[id]? = some (.row e 2 (pairc l))) (hi' : (⟨n, vars, objs⟩ : St).ev hi = .val (.int .i64 i)) (hik : i = (kk : Int)) (hle : kk ≤ l.length) (hr : l.take kk = r) (ht : SlT P T e 2)
    (ho : objs.set id .gone ++ [.row e 2 (pairc r)] = objs') (hm : objs.length = m) (hd : Nat.blt d n = true) (hk : aL P cx ops Q rest ⟨n, (d, .own m) :: vars, objs'⟩) :
    aL P cx ops Q (⟨some d, .slice T x none (some hi) none, ty, pos, af, none⟩ :: rest) ⟨n, vars, objs⟩ := by
  subst ho; subst hm; subst hr
  refine l_cutK (kk := kk) hx hob hi' hik (by rw [pairc_len]; omega) (by decide) ht hd ?_
  rw [pairc_takeK]
  exact hk
end
section
variable {P : Program} {st : St} {d : Option Tmp} {ty : TypeId} {pos : String} {af : Array Edge} {g : Option (Nat × Bool)}
def ptabc (l : List (List (Int × Int))) : List Dat := l.map fun t => .sl 2 (pairc t)
def ptabs (l : List (List (Int × Int))) : AV := .ro (.sl 1 (ptabc l))
end
end Go.Proofs.YtgojkabjgagjcaaDoor
set_option linter.unusedSimpArgs false
set_option linter.unusedVariables false
set_option linter.unusedSectionVars false
set_option maxRecDepth 20000
namespace Go.Proofs.YtgojkabjgagjcaaDoor
attribute [local irreducible] QOp aL aC qL
/-- a is below b. -/
def lt (ns : List Nat) (a b : Nat) : Bool := (ns.getD b 0).testBit a
def okPair (ns : List Nat) (b a : Nat) : Bool := !lt ns a b || ndiff (ns.getD a 0) (ns.getD b 0) == 0
def okRow (N : Nat) (ns : List Nat) (b : Nat) : Bool := !lt ns b b && (List.range N).all (okPair ns b)
/-- No point is below itself, and what is below something below a point is below it. -/
def okB (N : Nat) (ns : List Nat) : Bool := (List.range N).all (okRow N ns)
def chk (N : Int) (l : List Int) : Int :=
  if N < 0 ∨ 10 < N then 2 else if (l.length : Int) ≠ N then 1 else if ∃ x ∈ l, x < 0 ∨ x / 2 ^ N.toNat ≠ 0 then 3 else if okB N.toNat (l.map Int.toNat) then 0 else 4

theorem chk_3 {n : Nat} {l : List Int} (hn : n ≤ 10) (hl : l.length = n) {k : Nat} (hk : k < n) (h : l.getD k 0 < 0 ∨ l.getD k 0 / 2 ^ n ≠ 0) : chk n l = 3 := by
  have hm : l.getD k 0 ∈ l := by
    rw [List.getD_eq_getElem?_getD, List.getElem?_eq_getElem (by omega)]; exact List.getElem_mem _
  unfold chk
  rw [if_neg (by omega), if_neg (by omega), if_pos ⟨_, hm, by simpa using h⟩]

theorem nl_map (ns : List Nat) : (nl ns).map Int.toNat = ns := by
  induction ns with
  | nil => rfl
  | cons x l ih => simp only [nl, List.map_cons, Int.toNat_natCast] at ih ⊢; rw [ih]

theorem chk_nl {n : Nat} {ns : List Nat} (hn : n ≤ 10) (hl : ns.length = n) (h : ∀ x ∈ ns, x < 2 ^ n) : chk n (nl ns) = if okB n ns then 0 else 4 := by
  unfold chk
  rw [if_neg (by omega), if_neg (by rw [nl_len]; omega), if_neg, nl_map]
  · simp
  · rintro ⟨x, hx, h2⟩
    obtain ⟨m, hm, rfl⟩ := List.mem_map.1 hx
    have := h m hm
    simp only [Int.toNat_natCast] at h2
    have h3 : ((m : Int) / 2 ^ n) = ((m / 2 ^ n : Nat) : Int) := by simp
    rw [h3, Nat.div_eq_of_lt this] at h2
    omega

theorem nl_valid {n : Nat} {l : List Int} (hl : l.length = n) (h : ∀ j, j < n → 0 ≤ l.getD j 0 ∧ l.getD j 0 / 2 ^ n = 0) : ∃ ns, l = nl ns ∧ ∀ x ∈ ns, x < 2 ^ n := by
  have h1 : ∀ x ∈ l, 0 ≤ x ∧ x / 2 ^ n = 0 := by
    intro x hx
    obtain ⟨i, hi, rfl⟩ := List.getElem_of_mem hx
    have := h i (by omega)
    rwa [List.getD_eq_getElem?_getD, List.getElem?_eq_getElem hi] at this
  refine ⟨l.map Int.toNat, nl_of (fun x hx => (h1 x hx).1), fun x hx => ?_⟩
  obtain ⟨y, hy, rfl⟩ := List.mem_map.1 hx
  obtain ⟨h2, h3⟩ := h1 y hy
  obtain ⟨m, rfl⟩ := Int.eq_ofNat_of_zero_le h2
  have h4 : ((m : Int) / 2 ^ n) = ((m / 2 ^ n : Nat) : Int) := by simp
  rw [h4] at h3
  have h5 : m / 2 ^ n = 0 := by omega
  have hpos : 0 < 2 ^ n := Nat.pow_pos (by decide)
  simp only [Int.toNat_natCast]
  rcases (Nat.div_eq_zero_iff).1 h5 with h6 | h6
  · omega
  · exact h6

theorem getD_le {n : Nat} {ns : List Nat} (hn : n ≤ 10) (h : ∀ x ∈ ns, x < 2 ^ n) (k : Nat) : ns.getD k 0 < 1024 := by
  rw [List.getD_eq_getElem?_getD]
  cases hk : ns[k]? with
  | none => decide
  | some x =>
    have h1 := h x (List.mem_of_getElem? hk)
    have h2 : 2 ^ n ≤ 2 ^ 10 := Nat.pow_le_pow_right (by decide) hn
    simp only [Option.getD_some]
    omega

theorem okB_false {n : Nat} {ns : List Nat} {b : Nat} (hb : b < n) (h : okRow n ns b = false) : okB n ns = false := by
  rw [okB, List.all_eq_false]
  exact ⟨b, List.mem_range.2 hb, by simp [h]⟩
theorem okRow_false {n : Nat} {ns : List Nat} {b a : Nat} (ha : a < n) (h : okPair ns b a = false) : okRow n ns b = false := by
  rw [okRow, Bool.and_eq_false_iff]
  exact .inr (List.all_eq_false.2 ⟨a, List.mem_range.2 ha, by simp [h]⟩)

set_option maxHeartbeats 1000000 in
theorem check_ac (N : Int) (l : List Int) : AC Tryd.prog 123 [.agg [.val (.int .i64 N), ints l]] [] (.val (.int .i64 (chk N l))) [] := by
  by_cases h1 : N < 0 ∨ 10 < N
  · rw [show chk N l = 2 by unfold chk; rw [if_pos h1]]
    refine AC.mk (n := 74) (fn := Tryd.f123) Tryd.func123 (by kernel_rfl) rfl rfl rfl rfl (fun cx => ?_); dsimp only [argv, Nat.reduceAdd]
    (repeat' (first | refine a_seq ?_ | refine a_ret ?_ | refine a_region ?_ | refine l_nil ?_ | (apply w_q; (focus (first | exact Q_move (by conv => lhs; whnf) | exact Q_assign (by conv => lhs; whnf) | exact Q_fieldAddr_ptr rfl KFl.h | exact Q_load_ptr rfl rfl rfl KSc.h | exact Q_lss rfl rfl | exact Q_gtr rfl rfl | exact Q_pick_t rfl (by assumption) (by conv => lhs; whnf) | exact Q_pick_f rfl (by assumption) (by conv => lhs; whnf))); (focus exact rfl)) | (refine a_cond rfl ?_ ?_ <;> (intro h; (try (have hp := of_decide_eq_true h)); (try (have hp := of_decide_eq_false h)); (try contradiction); (try (exfalso; omega)))) | refine w_guard_y rfl rfl rfl (by first | assumption | rfl) ?_ | refine w_guard_n rfl rfl rfl (by first | assumption | rfl) ?_ | (refine w_guard rfl rfl rfl ?_ ?_ <;> (intro h; (try (have hp := of_decide_eq_true h)); (try (have hp := of_decide_eq_false h)); (try contradiction); (try (exfalso; omega)))) | refine w_box rfl rfl (by first|(dsimp only[obA,obB,obD,obE,obF,obG,obI,List.map,AO.sh,AV.sh,AV.shl,Nat.reduceAdd];done)|exact rfl) (by first|(dsimp only[obA,obB,obD,obE,obF,obG,obI,List.map,AO.sh,AV.sh,AV.shl,Nat.reduceAdd];done)|exact rfl) rfl ?_ | (refine ⟨[_], [], ⟨resV_tmp (by conv => lhs; whnf), trivial⟩, VwOs.mk (by decide) trivial, ?_, rfl⟩; exact Vw.val _))); (try all_goals (try show retA _ _ _ _ _ _ _))
  by_cases h2 : (l.length : Int) ≠ N
  · rw [show chk N l = 1 by unfold chk; rw [if_neg h1, if_pos h2]]
    refine AC.mk (n := 74) (fn := Tryd.f123) Tryd.func123 (by kernel_rfl) rfl rfl rfl rfl (fun cx => ?_); dsimp only [argv, Nat.reduceAdd]
    (repeat' (first | refine a_seq ?_ | refine a_skip ?_ | refine a_ret ?_ | refine a_region ?_ | refine l_nil ?_ | (apply w_q; (focus (first | exact Q_move (by conv => lhs; whnf) | exact Q_assign (by conv => lhs; whnf) | exact Q_fieldAddr_ptr rfl KFl.h | exact Q_load_ptr rfl rfl rfl KSc.h | exact Q_lss rfl rfl | exact Q_gtr rfl rfl | exact Q_neq rfl rfl | exact Q_len_ints rfl KSl.h | exact Q_pick_f rfl (by assumption) (by conv => lhs; whnf))); (focus exact rfl)) | (refine a_cond rfl ?_ ?_ <;> (intro h; (try (have hp := of_decide_eq_true h)); (try (have hp := of_decide_eq_false h)); (try contradiction); (try (exfalso; omega)))) | refine w_guard_y rfl rfl rfl (by first | assumption | rfl) ?_ | (refine w_guard rfl rfl rfl ?_ ?_ <;> (intro h; (try (have hp := of_decide_eq_true h)); (try (have hp := of_decide_eq_false h)); (try contradiction); (try (exfalso; omega)))) | refine w_box rfl rfl (by first|(dsimp only[obA,obB,obD,obE,obF,obG,obI,List.map,AO.sh,AV.sh,AV.shl,Nat.reduceAdd];done)|exact rfl) (by first|(dsimp only[obA,obB,obD,obE,obF,obG,obI,List.map,AO.sh,AV.sh,AV.shl,Nat.reduceAdd];done)|exact rfl) rfl ?_ | (refine ⟨[_], [], ⟨resV_tmp (by conv => lhs; whnf), trivial⟩, VwOs.mk (by decide) trivial, ?_, rfl⟩; exact Vw.val _))); (try all_goals (try show retA _ _ _ _ _ _ _))
  obtain ⟨n, rfl⟩ : ∃ n : Nat, N = n := ⟨N.toNat, by omega⟩
  have hn : n ≤ 10 := by omega
  have hl : l.length = n := by omega
  refine AC.mk (n := 74) (fn := Tryd.f123) Tryd.func123 (by kernel_rfl) rfl rfl rfl rfl (fun cx => ?_); dsimp only [argv, Nat.reduceAdd]
  (repeat' (first | refine a_seq ?_ | refine a_block ?_ | refine a_skip ?_ | refine a_region ?_ | refine l_nil ?_ | (apply w_q; (focus (first | exact Q_move (by conv => lhs; whnf) | exact Q_assign (by conv => lhs; whnf) | exact Q_fieldAddr_ptr rfl KFl.h | exact Q_load_ptr rfl rfl rfl KSc.h | exact Q_lss rfl rfl | exact Q_gtr rfl rfl | exact Q_neq rfl rfl | exact Q_len_ints rfl KSl.h | exact Q_pick_f rfl rfl (by conv => lhs; whnf))); (focus exact rfl)) | (refine a_cond rfl ?_ ?_ <;> (intro h; (try (have hp := of_decide_eq_true h)); (try (have hp := of_decide_eq_false h)); (try contradiction); (try (exfalso; omega)))) | refine w_guard_y rfl rfl rfl (by first | assumption | rfl) ?_ | refine w_box rfl rfl (by first|(dsimp only[obA,obB,obD,obE,obF,obG,obI,List.map,AO.sh,AV.sh,AV.shl,Nat.reduceAdd];done)|exact rfl) (by first|(dsimp only[obA,obB,obD,obE,obF,obG,obI,List.map,AO.sh,AV.sh,AV.shl,Nat.reduceAdd];done)|exact rfl) rfl ?_)); (try all_goals (try show retA _ _ _ _ _ _ _))
  refine w_loop (X := Nat) [1, 24, 25] (by simp only [keepv, getv_cons, Nat.reduceEqDiff, ↓reduceIte]; exact rfl) (fun k => [(26, .val (.int .i64 (k : Int)))]) (fun _ => [.box [.val (.int .i64 n), ints l]]) (fun k => k ≤ n ∧ ∀ j, j < k → 0 ≤ l.getD j 0 ∧ l.getD j 0 / 2 ^ n = 0) (fun k => n - k) (0) ([0]) ?_ ?_ rfl ?_ <;> (try dsimp only [List.cons_append, List.nil_append])
  · exact ⟨Nat.zero_le _, fun j hj => by omega⟩
  · (refine St.le_mk rfl (VwOs.mk (by decide) ?_) ?_ <;> (repeat' (first | exact trivial | exact vwR rfl | exact Vw.ro _ | exact Vw.ptr _ _ _ rfl | refine VwO.box' ?_ | refine ⟨⟨_, rfl, ?_⟩, ?_⟩ | refine ⟨?_, ?_⟩ )))
  rintro k ⟨hk, hall⟩
  (repeat' (first | refine a_seq ?_ | refine a_block ?_ | refine a_skip ?_ | refine a_ret ?_ | refine a_exit ?_ | refine a_region ?_ | refine l_nil ?_ | (apply w_q; (focus (first | exact Q_move (by conv => lhs; whnf) | exact Q_assign (by conv => lhs; whnf) | exact Q_fieldAddr_ptr rfl KFl.h | exact Q_load_ptr rfl rfl rfl KSc.h | exact Q_lss rfl rfl | exact Q_neq rfl rfl | exact Q_add rfl rfl (by omega) | exact Q_ix_ints rfl rfl rfl KSl.h (by omega) | exact Q_ld_ints rfl (by omega) KSc.h | exact Q_len_ints rfl KSl.h | exact Q_pick_t rfl (by assumption) (by conv => lhs; whnf) | exact Q_pick_f rfl (by assumption) (by conv => lhs; whnf))); (focus exact rfl)) | (refine a_cond rfl ?_ ?_ <;> (intro h; (try (have hp := of_decide_eq_true h)); (try (have hp := of_decide_eq_false h)); (try contradiction); (try (exfalso; omega)))) | refine w_guard_y rfl rfl rfl (by first | assumption | rfl) ?_ | refine w_guard_n rfl rfl rfl (by first | assumption | rfl) ?_ | (refine w_guard rfl rfl rfl ?_ ?_ <;> (intro h; (try (have hp := of_decide_eq_true h)); (try (have hp := of_decide_eq_false h)); (try contradiction); (try (exfalso; omega)))) | (((first | apply w_q); (focus exact Q_shr rfl rfl (by omega)); (focus exact rfl))))); (try all_goals (try show retA _ _ _ _ _ _ _))
  · refine ⟨[_], [], ⟨resV_tmp (by conv => lhs; whnf), trivial⟩, VwOs.mk (by decide) trivial, ?_, rfl⟩
    exact Vw.int' (chk_3 hn hl (by omega) (.inr hp)).symm
  · refine ⟨k + 1, [0], ?_, ?_, ?_, rfl⟩ <;> (try dsimp only)
    · refine ⟨by omega, fun j hj => ?_⟩
      by_cases hjk : j = k
      · subst hjk; exact ⟨by omega, by simpa using hp⟩
      · exact hall j (by omega)
    · omega
    · (refine St.le_mk rfl (VwOs.mk (by decide) ?_) ?_ <;> (repeat' (first | exact trivial | exact vwR rfl | exact Vw.ro _ | exact Vw.ptr _ _ _ rfl | refine VwO.box' ?_ | refine ⟨⟨_, rfl, ?_⟩, ?_⟩ | refine ⟨?_, ?_⟩ )))
  · refine ⟨[_], [], ⟨resV_tmp (by conv => lhs; whnf), trivial⟩, VwOs.mk (by decide) trivial, ?_, rfl⟩
    exact Vw.int' (chk_3 hn hl (by omega) (.inl hp)).symm
  have hkn : k = n := by omega
  subst hkn
  obtain ⟨ns, rfl, hns⟩ := nl_valid hl hall
  have hbd := getD_le hn hns
  have hl' : ns.length = k := by rw [← hl, nl_len]
  rw [chk_nl hn hl' hns]
  refine w_loop (X := Nat) [1, 41, 42] (by simp only [keepv, getv_cons, Nat.reduceEqDiff, ↓reduceIte]; exact rfl) (fun b => [(43, .val (.int .i64 (b : Int)))]) (fun _ => [.box [.val (.int .i64 k), ints (nl ns)]]) (fun b => b ≤ k ∧ ∀ j, j < b → okRow k ns j = true) (fun b => k - b) (0) ([0]) ?_ ?_ rfl ?_ <;> (try dsimp only [List.cons_append, List.nil_append])
  · exact ⟨Nat.zero_le _, fun j hj => by omega⟩
  · (refine St.le_mk rfl (VwOs.mk (by decide) ?_) ?_ <;> (repeat' (first | exact trivial | exact vwR rfl | exact Vw.ro _ | exact Vw.ptr _ _ _ rfl | refine VwO.box' ?_ | refine ⟨⟨_, rfl, ?_⟩, ?_⟩ | refine ⟨?_, ?_⟩ )))
  rintro b ⟨hb, hrows⟩
  (repeat' (first | refine a_seq ?_ | refine a_block ?_ | refine a_skip ?_ | refine a_ret ?_ | refine a_exit ?_ | refine a_region ?_ | refine l_nil ?_ | (apply w_q; (focus (first | exact Q_move (by conv => lhs; whnf) | exact Q_assign (by conv => lhs; whnf) | exact Q_fieldAddr_ptr rfl KFl.h | exact Q_load_ptr rfl rfl rfl KSc.h | exact Q_lss rfl rfl | exact Q_eql rfl rfl | exact Q_shrN rfl rfl (by omega) | exact Q_and1 rfl rfl | exact Q_ix_nats rfl rfl rfl KSl.h (by omega) | exact Q_ld_nats rfl (by omega) KSc.h | exact Q_len_nats rfl KSl.h)); (focus exact rfl)) | (refine a_cond rfl ?_ ?_ <;> (intro h; (try (have hp := of_decide_eq_true h)); (try (have hp := of_decide_eq_false h)); (try contradiction); (try (exfalso; omega)))))); (try all_goals (try show retA _ _ _ _ _ _ _))
  · refine ⟨[_], [], ⟨resV_tmp (by conv => lhs; whnf), trivial⟩, VwOs.mk (by decide) trivial, ?_, rfl⟩
    refine Vw.int' ?_
    have : lt ns b b = true := by unfold lt; rw [← bit_dec]; exact h
    rw [okB_false (b := b) (by rw [nl_len] at *; omega) (by simp [okRow, this])]
    rfl
  · have hbk : b < k := by rw [nl_len] at *; omega
    have hbb : lt ns b b = false := by unfold lt; rw [← bit_dec]; exact h
    refine w_loop (X := Nat) [1, 6, 41, 42, 43, 54, 55] (by simp only [keepv, getv_cons, Nat.reduceEqDiff, ↓reduceIte]; exact rfl) (fun a => [(56, .val (.int .i64 (a : Int)))]) (fun _ => [.box [.val (.int .i64 k), ints (nl ns)]]) (fun a => a ≤ k ∧ ∀ j, j < a → okPair ns b j = true) (fun a => k - a) (0) ([0]) ?_ ?_ rfl ?_ <;> (try dsimp only [List.cons_append, List.nil_append])
    · exact ⟨Nat.zero_le _, fun j hj => by omega⟩
    · (refine St.le_mk rfl (VwOs.mk (by decide) ?_) ?_ <;> (repeat' (first | exact trivial | exact vwR rfl | exact Vw.ro _ | exact Vw.ptr _ _ _ rfl | refine VwO.box' ?_ | refine ⟨⟨_, rfl, ?_⟩, ?_⟩ | refine ⟨?_, ?_⟩ )))
    rintro a ⟨ha, hcols⟩
    (repeat' (first | refine a_seq ?_ | refine a_block ?_ | refine a_skip ?_ | refine a_ret ?_ | refine a_exit ?_ | refine a_region ?_ | refine l_nil ?_ | (apply w_q; (focus (first | exact Q_move (by conv => lhs; whnf) | exact Q_assign (by conv => lhs; whnf) | exact Q_lss rfl rfl | exact Q_eql rfl rfl | exact Q_neq rfl rfl | exact Q_add rfl rfl (by omega) | exact Q_shrN rfl rfl (by omega) | exact Q_and1 rfl rfl | exact Q_ix_nats rfl rfl rfl KSl.h (by omega) | exact Q_ld_nats rfl (by omega) KSc.h | exact Q_pick_t rfl (by assumption) (by conv => lhs; whnf) | exact Q_pick_f rfl (by assumption) (by conv => lhs; whnf))); (focus exact rfl)) | (refine a_cond rfl ?_ ?_ <;> (intro h; (try (have hp := of_decide_eq_true h)); (try (have hp := of_decide_eq_false h)); (try contradiction); (try (exfalso; omega)))) | refine w_guard_y rfl rfl rfl (by first | assumption | rfl) ?_ | refine w_guard_n rfl rfl rfl (by first | assumption | rfl) ?_ | (refine w_guard rfl rfl rfl ?_ ?_ <;> (intro h; (try (have hp := of_decide_eq_true h)); (try (have hp := of_decide_eq_false h)); (try contradiction); (try (exfalso; omega)))) | (((first | apply w_q); (focus exact Q_andNotN rfl rfl (Nat.le_of_lt_succ (Nat.lt_of_lt_of_le (hbd _) (by decide))) (Nat.le_of_lt_succ (Nat.lt_of_lt_of_le (hbd _) (by decide)))); (focus exact rfl))))); (try all_goals (try show retA _ _ _ _ _ _ _))
    · refine ⟨[_], [], ⟨resV_tmp (by conv => lhs; whnf), trivial⟩, VwOs.mk (by decide) trivial, ?_, rfl⟩
      refine Vw.int' ?_
      have h3 : okPair ns b a = false := by
        unfold okPair lt
        rw [← bit_dec, decide_eq_true (by assumption)]
        simpa using hp
      rw [okB_false hbk (okRow_false (a := a) (by omega) h3)]
      rfl
    · refine ⟨a + 1, [0], ?_, ?_, ?_, rfl⟩ <;> (try dsimp only)
      · refine ⟨by omega, fun j hj => ?_⟩
        by_cases hja : j = a
        · subst hja
          unfold okPair
          have : ndiff (ns.getD j 0) (ns.getD b 0) = 0 := by omega
          rw [this]
          simp
        · exact hcols j (by omega)
      · omega
      · (refine St.le_mk rfl (VwOs.mk (by decide) ?_) ?_ <;> (repeat' (first | exact trivial | exact vwR rfl | exact Vw.ro _ | exact Vw.ptr _ _ _ rfl | refine VwO.box' ?_ | refine ⟨⟨_, rfl, ?_⟩, ?_⟩ | refine ⟨?_, ?_⟩ )))
    · refine ⟨a + 1, [0], ?_, ?_, ?_, rfl⟩ <;> (try dsimp only)
      · refine ⟨by omega, fun j hj => ?_⟩
        by_cases hja : j = a
        · subst hja
          unfold okPair lt
          rw [← bit_dec, decide_eq_false hp]
          rfl
        · exact hcols j (by omega)
      · omega
      · (refine St.le_mk rfl (VwOs.mk (by decide) ?_) ?_ <;> (repeat' (first | exact trivial | exact vwR rfl | exact Vw.ro _ | exact Vw.ptr _ _ _ rfl | refine VwO.box' ?_ | refine ⟨⟨_, rfl, ?_⟩, ?_⟩ | refine ⟨?_, ?_⟩ )))
    · refine ⟨b + 1, [0], ?_, ?_, ?_, rfl⟩ <;> (try dsimp only)
      · refine ⟨by omega, fun j hj => ?_⟩
        by_cases hjb : j = b
        · subst hjb
          unfold okRow
          rw [hbb]
          simp only [Bool.not_false, Bool.true_and, List.all_eq_true]
          intro i hi
          exact hcols i (by have := List.mem_range.1 hi; omega)
        · exact hrows j (by omega)
      · omega
      · (refine St.le_mk rfl (VwOs.mk (by decide) ?_) ?_ <;> (repeat' (first | exact trivial | exact vwR rfl | exact Vw.ro _ | exact Vw.ptr _ _ _ rfl | refine VwO.box' ?_ | refine ⟨⟨_, rfl, ?_⟩, ?_⟩ | refine ⟨?_, ?_⟩ )))
  · refine ⟨[_], [], ⟨resV_tmp (by conv => lhs; whnf), trivial⟩, VwOs.mk (by decide) trivial, ?_, rfl⟩
    refine Vw.int' ?_
    rw [if_pos]
    rw [okB, List.all_eq_true]
    intro j hj
    exact hrows j (by rw [nl_len] at *; have := List.mem_range.1 hj; omega)
end Go.Proofs.YtgojkabjgagjcaaDoor
