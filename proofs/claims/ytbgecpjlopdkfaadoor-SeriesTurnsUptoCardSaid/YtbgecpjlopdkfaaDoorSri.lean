import Derived.Test.YtbgecpjlopdkfaaDoorSrh
import Derived.Test.YtbgecpjlopdkfaaDoorSrf
set_option linter.unusedSimpArgs false
set_option linter.unusedVariables false
set_option linter.unusedSectionVars false
set_option maxRecDepth 20000
namespace Go.Proofs.YtbgecpjlopdkfaaDoor
attribute [local irreducible] QOp aL aC qL
theorem kdc_app : ∀ (l r : List Tr), kdc (l ++ r) = kdc l ++ kdc r
  | [], r => by rw [show kdc [] = [] by unfold kdc; rfl]; rfl
  | t :: l, r => by
    rw [show (t :: l) ++ r = t :: (l ++ r) from rfl]
    rw [show kdc (t :: (l ++ r)) = t.dc ++ kdc (l ++ r) by conv => lhs; unfold kdc]
    rw [kdc_app l r, show kdc (t :: l) = t.dc ++ kdc l by conv => lhs; unfold kdc]
    rw [List.append_assoc]
theorem dc_one : ∀ t : Tr, t.dc.all Dat.one = true
  | .mk _ _ _ => by unfold Tr.dc; rfl
theorem kdc_one : ∀ (l : List Tr) (dt : Dat), dt ∈ kdc l → dt.one = true
  | [], dt, h => by rw [show kdc [] = [] by unfold kdc; rfl] at h; cases h
  | t :: l, dt, h => by
    rw [show kdc (t :: l) = t.dc ++ kdc l by conv => lhs; unfold kdc] at h
    rcases List.mem_append.1 h with h | h
    · exact List.all_eq_true.1 (dc_one t) dt h
    · exact kdc_one l dt h
theorem kdc_sg (t : Tr) : kdc [t] = t.dc ++ [] := by
  rw [show kdc [t] = t.dc ++ kdc [] by conv => lhs; unfold kdc]
  rw [show kdc [] = [] by unfold kdc; rfl]
section
variable {P : Program} {k : Nat} {cx : Cx k} {ops : Array Oper} {Q : Exit → St → Prop} {rest : List Oper} {ty : TypeId} {pos : String} {af : Array Edge} {n m : Nat} {vars : List (Nat × AV)} {objs objs' : List AO} {d : Nat}
theorem w_lit_term [Zs] {T e : TypeId} {by' : Nat} {z : Value} {x : Operand} {t : Tr} (hx : (⟨n, vars, objs⟩ : St).ev x = tv t) (ht : SlT P T e 3) (hmk : MkT P e z 3 by')
    (ho : objs ++ [.row e 3 (kdc [t])] = objs') (hm : objs.length = m) (hd : Nat.blt d n = true) (hk : aL P cx ops Q rest ⟨n, (d, .own m) :: vars, objs'⟩) :
    aL P cx ops Q (⟨some d, .buildSlice T 1 #[(0, x)], ty, pos, af, none⟩ :: rest) ⟨n, vars, objs⟩ := by
  subst ho; subst hm
  exact l_lit (xs := [x]) rfl rfl ht hmk (by decide) (by decide) ⟨t.dc, [], by rw [hx]; rfl, dc_len t, dc_one t, rfl, kdc_sg t⟩ hd hk
theorem w_lit_term3 [Zs] {T e : TypeId} {by' : Nat} {z : Value} {x : Operand} {a b : Int} {l : List Tr} (hx : (⟨n, vars, objs⟩ : St).ev x = .agg [.val (.int .i64 a), .val (.int .i64 b), tks l]) (ht : SlT P T e 3) (hmk : MkT P e z 3 by')
    (ho : objs ++ [.row e 3 (kdc [.mk a b l])] = objs') (hm : objs.length = m) (hd : Nat.blt d n = true) (hk : aL P cx ops Q rest ⟨n, (d, .own m) :: vars, objs'⟩) :
    aL P cx ops Q (⟨some d, .buildSlice T 1 #[(0, x)], ty, pos, af, none⟩ :: rest) ⟨n, vars, objs⟩ := w_lit_term (hx.trans (tv_mk a b l).symm) ht hmk ho hm hd hk
theorem w_ap_terms [Zs] {T e : TypeId} {x y : Operand} {id : Nat} {l r : List Tr} (hx : (⟨n, vars, objs⟩ : St).ev x = .own id) (hob : objs[id]? = some (.row e 3 (kdc l))) (hy : SrcD ⟨n, vars, objs⟩ 3 ((⟨n, vars, objs⟩ : St).ev y) (kdc r))
    (ht : SlT P T e 3) (hmk : MkT P e (.agg #[.int .i64 0, .int .i64 0, .slice none 0 0]) 3 40) (hbig : l.length + r.length ≤ 1000000) (ho : objs.set id .gone ++ [.row e 3 (kdc (l ++ r))] = objs') (hm : objs.length = m) (hd : Nat.blt d n = true)
    (hk : aL P cx ops Q rest ⟨n, (d, .own m) :: vars, objs'⟩) : aL P cx ops Q (⟨some d, .call ⟨.builtin .append, #[x, y], #[T, T]⟩, ty, pos, af, none⟩ :: rest) ⟨n, vars, objs⟩ := by
  subst ho; subst hm
  exact l_append (cs := kdc l) (cs2 := kdc r) rfl rfl hx hob hy ht hmk rfl (kdc_len l) (kdc_len r) (by decide) (kdc_one r) (by decide) (by omega) hd (by rw [← kdc_app]; exact hk)
end
theorem filt_lt {α : Type} {p q : α → Bool} (hq : ∀ x, q x = true → p x = true) : ∀ {l : List α} {x : α}, x ∈ l → p x = true → q x = false → (l.filter q).length < (l.filter p).length
  | y :: l, x, hx, h1, h2 => by
    have hle : (l.filter q).length ≤ (l.filter p).length := by
      clear hx h1 h2
      induction l with
      | nil => exact Nat.le_refl _
      | cons z l ih =>
        rw [List.filter_cons, List.filter_cons]
        by_cases hz : q z = true
        · rw [if_pos hz, if_pos (hq z hz)]; simpa using ih
        · rw [if_neg hz]
          split
          · rw [List.length_cons]; omega
          · exact ih
    rw [List.filter_cons, List.filter_cons]
    rcases List.mem_cons.1 hx with e | hx
    · subst e
      rw [if_pos h1, if_neg (by rw [h2]; decide), List.length_cons]; omega
    · have ih := filt_lt hq hx h1 h2
      by_cases hz : q y = true
      · rw [if_pos hz, if_pos (hq y hz)]; simpa using ih
      · rw [if_neg hz]
        split
        · rw [List.length_cons]; omega
        · exact ih
theorem cmpR_in {R : Nat → Nat → Bool} {s i : Nat} (h : (cmpR R s).testBit i = true) : s.testBit i = true := (cmpR_bit.1 h).2.1
theorem cmpR_low {R : Nat → Nat → Bool} {s : Nat} (hs : s < 1024) (h0 : s ≠ 0) : (cmpR R s).testBit (lowkS s) = true := by
  have h := (low_atS hs (by omega)).2.2.1
  exact cmpR_bit.2 ⟨bitS_lt hs h, h, .refl⟩
/-- Pieces: parts of the set, none empty, at most ten; of two or more each is less. -/
theorem pcs_in (R : Nat → Nat → Bool) : ∀ (f s : Nat), s < 1024 → ∀ p ∈ pcsF R f s, p ≤ s ∧ p ≠ 0 ∧ ∀ i, p.testBit i = true → s.testBit i = true
  | 0, s, _, p, h => by unfold pcsF at h; cases h
  | f + 1, s, hs, p, h => by
    unfold pcsF at h
    split at h
    · cases h
    · rename_i h0
      have hl := ndiff_less (s := s) (c := cmpR R s) (fun i hi => cmpR_in hi) (cmpR_low hs h0)
      rcases List.mem_cons.1 h with e | h
      · subst e
        refine ⟨?_, fun e => ?_, fun i hi => cmpR_in hi⟩
        · have : cmpR R s = cmpR R s &&& s := by
            apply Nat.eq_of_testBit_eq
            intro i
            rw [Nat.testBit_and]
            cases hc : (cmpR R s).testBit i
            · rfl
            · rw [cmpR_in hc]; rfl
          rw [this]; exact Nat.and_le_right
        · have := cmpR_low (R := R) hs h0
          rw [e, Nat.zero_testBit] at this; cases this
      · obtain ⟨h1, h2, h3⟩ := pcs_in R f (ndiff s (cmpR R s)) (by omega) p h
        refine ⟨by omega, h2, fun i hi => ?_⟩
        have := h3 i hi
        rw [testBit_ndiff, Bool.and_eq_true] at this
        exact this.1
theorem pcs_len (R : Nat → Nat → Bool) : ∀ (f s : Nat), s < 1024 → (pcsF R f s).length ≤ (mbs s).length
  | 0, s, _ => by unfold pcsF; exact Nat.zero_le _
  | f + 1, s, hs => by
    unfold pcsF
    split
    · exact Nat.zero_le _
    · rename_i h0
      have hl := ndiff_less (s := s) (c := cmpR R s) (fun i hi => cmpR_in hi) (cmpR_low hs h0)
      have ih := pcs_len R f (ndiff s (cmpR R s)) (by omega)
      have hlow := (low_atS hs (by omega)).2.2.1
      have : (mbs (ndiff s (cmpR R s))).length < (mbs s).length := by
        unfold mbs
        refine filt_lt (fun x hx => ?_) (x := lowkS s) (List.mem_range.2 (bitS_lt hs hlow)) hlow ?_
        · rw [testBit_ndiff, Bool.and_eq_true] at hx; exact hx.1
        · rw [testBit_ndiff, cmpR_low hs h0, hlow]; rfl
      rw [List.length_cons]; omega
theorem pcs_less (R : Nat → Nat → Bool) (f s : Nat) (hs : s < 1024) (h2 : 2 ≤ (pcsF R f s).length) : ∀ p ∈ pcsF R f s, p < s := by
  intro p hp
  cases f with
  | zero => unfold pcsF at hp; cases hp
  | succ f =>
    unfold pcsF at hp h2
    split at hp
    · cases hp
    · rename_i h0
      rw [if_neg h0, List.length_cons] at h2
      have hl := ndiff_less (s := s) (c := cmpR R s) (fun i hi => cmpR_in hi) (cmpR_low hs h0)
      rcases List.mem_cons.1 hp with e | hp
      · subst e
        have h1 := (pcs_in R (f + 1) s hs (cmpR R s) (by unfold pcsF; rw [if_neg h0]; exact List.mem_cons_self)).1
        refine Nat.lt_of_le_of_ne h1 fun e => ?_
        have h3 : ndiff s (cmpR R s) = 0 := by
          rw [e]
          apply Nat.eq_of_testBit_eq
          intro i
          rw [testBit_ndiff, Nat.zero_testBit]
          cases s.testBit i <;> rfl
        rw [h3] at h2
        have : pcsF R f 0 = [] := by cases f <;> (unfold pcsF; rfl)
        rw [this] at h2
        simp at h2
      · have := (pcs_in R f (ndiff s (cmpR R s)) (by omega) p hp).1
        omega
theorem insR_mem (c : Int → Int → Int) : ∀ (f i : Nat) (L : List Int), f + i = L.length → ∀ x, x ∈ insR c f i L → x ∈ L
  | 0, _, L, _, x, h => h
  | f + 1, i, L, hf, x, h => by
    unfold insR at h
    exact sink_mem c i L (by omega) x (insR_mem c f (i + 1) (sink c i L) (by rw [sink_len]; omega) x h)
theorem insR_len (c : Int → Int → Int) : ∀ (f i : Nat) (L : List Int), (insR c f i L).length = L.length
  | 0, _, L => rfl
  | f + 1, i, L => by unfold insR; rw [insR_len c f, sink_len]
theorem isF_len (c : Int → Int → Int) (l : List Int) : (isF c l).length = l.length := insR_len c _ _ l
theorem isF_mem (c : Int → Int → Int) (l : List Int) : ∀ x, x ∈ isF c l → x ∈ l := by
  intro x h
  cases l with
  | nil => exact h
  | cons a l => exact insR_mem c _ _ _ (by simp) x h
/-- The lower first. -/
def c3 (ns : List Nat) (p q : Int) : Int := if lt ns ((mbs p.toNat).getD 0 0) ((mbs q.toNat).getD 0 0) = true then -1 else 1
noncomputable def coF (ns : List Nat) (s : Nat) : List Nat := (isF (c3 ns) (nl (pcsF (fun a b => !abvS ns a b) 1024 s))).map Int.toNat
theorem coF_mem {ns : List Nat} {s p : Nat} (h : p ∈ coF ns s) : p ∈ pcsF (fun a b => !abvS ns a b) 1024 s := by
  unfold coF at h
  obtain ⟨x, hx, e⟩ := List.mem_map.1 h
  have := isF_mem _ _ x hx
  unfold nl at this
  obtain ⟨y, hy, e2⟩ := List.mem_map.1 this
  subst e2
  rw [← e]
  exact hy
theorem coF_len (ns : List Nat) (s : Nat) : (coF ns s).length = (pcsF (fun a b => !abvS ns a b) 1024 s).length := by
  unfold coF nl
  rw [List.length_map, isF_len, List.length_map]
theorem coF_nl (ns : List Nat) (s : Nat) : nl (coF ns s) = isF (c3 ns) (nl (pcsF (fun a b => !abvS ns a b) 1024 s)) := by
  unfold coF
  show List.map _ (List.map _ _) = _
  rw [List.map_map]
  conv => rhs; rw [← List.map_id (isF (c3 ns) _)]
  refine List.map_congr_left fun x hx => ?_
  have := isF_mem _ _ x hx
  unfold nl at this
  obtain ⟨y, _, e2⟩ := List.mem_map.1 this
  subst e2
  rfl
noncomputable def ptsF (ns : List Nat) (s : Nat) : List Nat := if (pcsF (abvS ns) 1024 s).length = 1 then coF ns s else pcsF (abvS ns) 1024 s
/-- All, or none. -/
def spL (g : Nat → Option Tr) : List Nat → Option (List Tr)
  | [] => some []
  | p :: r => match g p with
    | none => none
    | some t => (spL g r).map (t :: ·)
theorem spL_drop {g : Nat → Option Tr} {ps : List Nat} {done : List Tr} {i : Nat} (hi : i < ps.length) (h : spL g ps = (spL g (ps.drop i)).map (done ++ ·)) :
    (g (ps.getD i 0) = none → spL g ps = none) ∧ ∀ t, g (ps.getD i 0) = some t → spL g ps = (spL g (ps.drop (i + 1))).map ((done ++ [t]) ++ ·) := by
  rw [List.drop_eq_getElem_cons hi] at h
  have e : ps.getD i 0 = ps[i] := by rw [List.getD_eq_getElem?_getD, List.getElem?_eq_getElem hi]; rfl
  rw [e]
  refine ⟨fun h1 => ?_, fun t h1 => ?_⟩
  · rw [h]; unfold spL; rw [h1]; rfl
  · rw [h]
    conv => lhs; unfold spL
    rw [h1]
    show Option.map _ (Option.map _ _) = _
    rw [Option.map_map]
    congr 1
    funext x
    show done ++ (t :: x) = (done ++ [t]) ++ x
    rw [List.append_assoc]; rfl
noncomputable def spF (ns : List Nat) : Nat → Nat → Option Tr
  | 0, _ => none
  | f + 1, s => if (mbs s).length = 1 then some (.mk 1 ((mbs s).getD 0 0 : Nat) []) else
      if (ptsF ns s).length < 2 then none else (spL (spF ns f) (ptsF ns s)).map (.mk (if (pcsF (abvS ns) 1024 s).length = 1 then 3 else 2) 0)
end Go.Proofs.YtbgecpjlopdkfaaDoor
