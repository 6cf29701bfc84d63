import Derived.Test.YtgojkabjgagjcaaTi
import Derived.Test.YtgojkabjgagjcaaVb
set_option linter.unusedSimpArgs false
set_option linter.unusedVariables false
set_option linter.unusedSectionVars false
set_option maxRecDepth 20000
namespace Go.Proofs.Ytgojkabjgagjcaa
attribute [local irreducible] QOp aL aC qL
attribute [local irreducible] FOp POp hL xH
def EA (n : Nat) (ns : List Nat) (a b : Nat) : Prop := ApP n ns (a, b)
/-- What a pair that is laid asks of a third point: half of it, and all of it. -/
def HC1 (ns : List Nat) (M : Nat → Nat → Bool) (x y z : Nat) : Prop := M x y = true → apf ns x z = true → apf ns y z = false → M x z = true
def HC2 (ns : List Nat) (M : Nat → Nat → Bool) (x y z : Nat) : Prop := M x y = true → apf ns z y = true → apf ns x z = false → M z y = true
structure HG (n : Nat) (ns : List Nat) (k a b : Nat) (M : Nat → Nat → Bool) : Prop where
  lo : ∀ u v, Ly (EA n ns) n k u v → M u v = true
  hi : ∀ u v, M u v = true → Ly (EA n ns) n (k + 1) u v
  ab : M a b = true
structure HS (n : Nat) (ns : List Nat) (k a b : Nat) (M0 : Nat → Nat → Bool) (ag : Bool) (M : Nat → Nat → Bool) (x y z : Nat) : Prop where
  g : HG n ns k a b M
  no : ag = false → M = M0 ∧ ∀ u v w, u < n → v < n → w < n → DnV x y z u v w → HC1 ns M0 u v w ∧ HC2 ns M0 u v w
  ys : ag = true → cntM n M0 < cntM n M
/-- In the middle of a round. -/
structure HM (n : Nat) (ns : List Nat) (k a b : Nat) (M0 : Nat → Nat → Bool) (ag : Bool) (M : Nat → Nat → Bool) (x y z : Nat) : Prop where
  s : HS n ns k a b M0 ag M x y z
  xy : M x y = true
  one : ag = false → HC1 ns M0 x y z
section
variable {n : Nat} {ns : List Nat} {k a b : Nat} {M0 M : Nat → Nat → Bool} {ag : Bool} {x y z : Nat}
theorem HG.inn (h : HG n ns k a b M) {u v : Nat} (hm : M u v = true) : u < n ∧ v < n := by
  have := ly_edge (h.hi u v hm)
  exact ⟨this.l, this.r⟩
theorem ap_not {u v : Nat} (hu : u < n) (hv : v < n) (h : apf ns u v = false) : ¬ EA n ns u v := fun q => by
  rw [(apf_iff hu hv).2 q] at h; cases h
theorem HG.add1 (h : HG n ns k a b M) (hz : z < n) (hm : M x y = true) (h1 : apf ns x z = true) (h2 : apf ns y z = false) : HG n ns k a b (updM M x z true) := by
  have hxy := h.inn hm
  refine ⟨fun u v q => updM_true.2 (.inr (h.lo u v q)), fun u v q => ?_, updM_true.2 (.inr h.ab)⟩
  rcases updM_true.1 q with ⟨rfl, rfl⟩ | q
  · exact ly_frc (h.hi _ _ hm) (.right (s := (_, _)) .base ((apf_iff hxy.1 hz).1 h1) (ap_not hxy.2 hz h2))
  · exact h.hi u v q
theorem HG.add2 (h : HG n ns k a b M) (hz : z < n) (hm : M x y = true) (h1 : apf ns z y = true) (h2 : apf ns x z = false) : HG n ns k a b (updM M z y true) := by
  have hxy := h.inn hm
  refine ⟨fun u v q => updM_true.2 (.inr (h.lo u v q)), fun u v q => ?_, updM_true.2 (.inr h.ab)⟩
  rcases updM_true.1 q with ⟨rfl, rfl⟩ | q
  · exact ly_frc (h.hi _ _ hm) (.left (s := (_, _)) .base ((apf_iff hz hxy.2).1 h1) (ap_not hxy.1 hz h2))
  · exact h.hi u v q
theorem HS.start (h : HG n ns k a b M) : HS n ns k a b M false M 0 0 0 :=
  ⟨h, fun _ => ⟨rfl, fun u v w _ _ _ hd => by unfold DnV at hd; omega⟩, fun h => by cases h⟩
theorem HS.to {x2 y2 z2 : Nat} (h : HS n ns k a b M0 ag M x y z) (hd : ∀ u v w, u < n → v < n → w < n → DnV x2 y2 z2 u v w → DnV x y z u v w) : HS n ns k a b M0 ag M x2 y2 z2 :=
  ⟨h.g, fun hf => ⟨(h.no hf).1, fun u v w h1 h2 h3 h4 => (h.no hf).2 u v w h1 h2 h3 (hd u v w h1 h2 h3 h4)⟩, h.ys⟩
theorem HS.skip (h : HS n ns k a b M0 ag M x y z) (hm : M x y = false) : HS n ns k a b M0 ag M x (y + 1) 0 :=
  ⟨h.g, fun hf => ⟨(h.no hf).1, fun u v w h1 h2 h3 h4 => by
    by_cases e : u = x ∧ v = y
    · obtain ⟨rfl, rfl⟩ := e
      rw [(h.no hf).1] at hm
      exact ⟨fun q => (by rw [hm] at q; cases q), fun q => (by rw [hm] at q; cases q)⟩
    · exact (h.no hf).2 u v w h1 h2 h3 (by unfold DnV at *; omega)⟩, h.ys⟩
theorem HS.grow (h : HS n ns k a b M0 ag M x y z) {u v : Nat} (hu : u < n) (hv : v < n) (hm : M u v = false) : cntM n M0 < cntM n (updM M u v true) := by
  have hq := cntM_upd hu hv hm
  cases hag : ag with
  | false => rw [(h.no hag).1] at hq ⊢; exact hq
  | true => exact Nat.lt_trans (h.ys hag) hq
theorem HS.one1 (h : HS n ns k a b M0 ag M x y z) (hz : z < n) (hm : M x y = true) (h1 : apf ns x z = true) (h2 : apf ns y z = false) (h3 : M x z = false) : HM n ns k a b M0 true (updM M x z true) x y z :=
  ⟨⟨h.g.add1 hz hm h1 h2, fun hf => (by cases hf), fun _ => h.grow (h.g.inn hm).1 hz h3⟩, updM_true.2 (.inr hm), fun hf => by cases hf⟩
theorem HS.one0 (h : HS n ns k a b M0 ag M x y z) (hm : M x y = true) (hn : apf ns x z = true → apf ns y z = false → M x z = true) : HM n ns k a b M0 ag M x y z :=
  ⟨h, hm, fun hf _ h1 h2 => by rw [← (h.no hf).1]; exact hn h1 h2⟩
theorem HM.two1 (h : HM n ns k a b M0 ag M x y z) (hz : z < n) (h1 : apf ns z y = true) (h2 : apf ns x z = false) (h3 : M z y = false) : HS n ns k a b M0 true (updM M z y true) x y (z + 1) :=
  ⟨h.s.g.add2 hz h.xy h1 h2, fun hf => (by cases hf), fun _ => h.s.grow hz (h.s.g.inn h.xy).2 h3⟩
theorem HM.two0 (h : HM n ns k a b M0 ag M x y z) (hn : apf ns z y = true → apf ns x z = false → M z y = true) : HS n ns k a b M0 ag M x y (z + 1) :=
  ⟨h.s.g, fun hf => ⟨(h.s.no hf).1, fun u v w h1 h2 h3 h4 => by
    by_cases e : u = x ∧ v = y ∧ w = z
    · obtain ⟨rfl, rfl, rfl⟩ := e
      exact ⟨h.one hf, fun _ q1 q2 => by rw [← (h.s.no hf).1]; exact hn q1 q2⟩
    · exact (h.s.no hf).2 u v w h1 h2 h3 (by unfold DnV at *; omega)⟩, h.s.ys⟩
theorem HS.fin (h : HS n ns k a b M0 false M n 0 0) : ∀ u v w, u < n → v < n → w < n → HC1 ns M u v w ∧ HC2 ns M u v w := fun u v w h1 h2 h3 => by
  rw [(h.no rfl).1]
  exact (h.no rfl).2 u v w h1 h2 h3 (.inl h1)
/-- Nothing turns any more: all is laid that follows from the pair. -/
theorem hg_end (h : HG n ns (a * n + b) a b M) (ha : a < n) (hb : b < n) (hc : ∀ u v w, u < n → v < n → w < n → HC1 ns M u v w ∧ HC2 ns M u v w) : ∀ u v, M u v = true ↔ Ly (EA n ns) n (a * n + b + 1) u v := by
  have e1 : (a * n + b) / n = a := by rw [Nat.mul_comm, Nat.mul_add_div (by omega), Nat.div_eq_of_lt hb]; omega
  have e2 : (a * n + b) % n = b := by rw [Nat.mul_comm, Nat.mul_add_mod, Nat.mod_eq_of_lt hb]
  refine fun u v => ⟨h.hi u v, fun q => ?_⟩
  rcases q with q | ⟨_, q⟩
  · exact h.lo u v q
  · rw [e1, e2] at q
    induction q with
    | base => exact h.ab
    | right _ q1 q2 ih =>
      have hin := h.inn ih
      refine (hc _ _ _ hin.1 hin.2 q1.r).1 ih ((apf_iff hin.1 q1.r).2 q1) ?_
      cases hq : apf ns _ _
      · rfl
      · exact absurd ((apf_iff hin.2 q1.r).1 hq) q2
    | left _ q1 q2 ih =>
      have hin := h.inn ih
      refine (hc _ _ _ hin.1 hin.2 q1.l).2 ih ((apf_iff q1.l hin.2).2 q1) ?_
      cases hq : apf ns _ _
      · rfl
      · exact absurd ((apf_iff hin.1 q1.l).1 hq) q2
theorem hg_new (ha : a < n) (hb : b < n) (hL : ∀ u v, M u v = true ↔ Ly (EA n ns) n (a * n + b) u v) (h1 : apf ns a b = true) (h2 : M a b = false) (h3 : M b a = false) : HG n ns (a * n + b) a b (updM M a b true) := by
  have e1 : (a * n + b) / n = a := by rw [Nat.mul_comm, Nat.mul_add_div (by omega), Nat.div_eq_of_lt hb]; omega
  have e2 : (a * n + b) % n = b := by rw [Nat.mul_comm, Nat.mul_add_mod, Nat.mod_eq_of_lt hb]
  refine ⟨fun u v q => updM_true.2 (.inr ((hL u v).2 q)), fun u v q => ?_, updM_same _ _ _ _⟩
  rcases updM_true.1 q with ⟨rfl, rfl⟩ | q
  · right
    rw [e1, e2]
    exact ⟨⟨(apf_iff ha hb).1 h1, fun q => (by rw [(hL _ _).2 q] at h2; cases h2), fun q => (by rw [(hL _ _).2 q] at h3; cases h3)⟩, .base (s := (_, _))⟩
  · exact .inl ((hL u v).1 q)
theorem hg_old (hb : b < n) (hL : ∀ u v, M u v = true ↔ Ly (EA n ns) n (a * n + b) u v) (h : ¬ (apf ns a b = true ∧ M a b = false ∧ M b a = false)) : ∀ u v, M u v = true ↔ Ly (EA n ns) n (a * n + b + 1) u v := by
  have e1 : (a * n + b) / n = a := by rw [Nat.mul_comm, Nat.mul_add_div (by omega), Nat.div_eq_of_lt hb]; omega
  have e2 : (a * n + b) % n = b := by rw [Nat.mul_comm, Nat.mul_add_mod, Nat.mod_eq_of_lt hb]
  refine fun u v => ⟨fun q => .inl ((hL u v).1 q), fun q => ?_⟩
  rcases q with q | ⟨⟨q1, q2, q3⟩, _⟩
  · exact (hL u v).2 q
  · rw [e1, e2] at q1 q2 q3
    refine absurd ⟨(apf_iff q1.l q1.r).2 q1, ?_, ?_⟩ h
    · cases hm : M a b
      · rfl
      · exact absurd ((hL a b).1 hm) q2
    · cases hm : M b a
      · rfl
      · exact absurd ((hL b a).1 hm) q3
end
section
variable {P : Program} {st : St} {d : Option Tmp} {ty : TypeId} {pos : String} {af : Array Edge} {g : Option (Nat × Bool)}
theorem Q_ld_mbE {x : Operand} {T e0 e' : TypeId} (id a b : Nat) {N : Nat} {gB cC : Nat → Nat} {M : Nat → Nat → Bool} {v : Bool} (hv : M a b = v) (ho : st.objs[id]? = some (.mat e0 e' (mtV N gB cC M))) (ha : a < N) (hb : b < N) (hx : st.ev x = .val (.pointer (some ⟨gB a, b, none⟩))) (ht : ScT P T) :
    QOp P ⟨d, .load T x, ty, pos, af, g⟩ st (.val (.bool v)) := by
  subst hv; exact Q_ld_mb ho ha hb hx ht
end
/-- A place where a run stops. -/
def Stop (p : Prop) : Prop := p
theorem stopA {P : Program} {k : Nat} {cx : Cx k} [Zs] {id : Nat} {ops : Array Oper} {dr : Bool} {c : Code} {Q : Exit → St → Prop} {st : St} (h : Stop (aC P cx ((Code.region id ops dr).seq c) Q st)) : aC P cx ((Code.region id ops dr).seq c) Q st := h
set_option maxRecDepth 20000 in
set_option maxHeartbeats 8000000 in
theorem HasTurned_ac (n : Nat) (ns : List Nat) (hn : n ≤ 10) (hv : Vld n ns) (res : Bool) (hres : res = true ↔ Tro (EA n ns) n) :
    AC Try.prog 7 [ordv n (nl ns)] [] (.val (.bool res)) [] := by
  have kA := fun a b (ha : a < n) (hb : b < n) => Apart_ac n ns a b hn hv ha hb
  simp only [apf_cmp] at kA
  clear hv
  refine AC.mk (n := 192) (fn := Try.f7) Try.func7 (by kernel_rfl) rfl rfl rfl rfl (fun cx => ?_); dsimp only [argv, Nat.reduceAdd]
  (repeat' (first | refine a_seq ?_ | refine a_region ?_ | refine l_nil ?_ | (apply w_q; (focus (first | exact Q_assign (by conv => lhs; whnf))); (focus exact rfl)) | refine w_box rfl rfl (by first|(dsimp only[obA,obB,obD,obE,obF,obG,obI,List.map,AO.sh,AV.sh,AV.shl,Nat.reduceAdd];done)|exact rfl) (by first|(dsimp only[obA,obB,obD,obE,obF,obG,obI,List.map,AO.sh,AV.sh,AV.shl,Nat.reduceAdd];done)|exact rfl) rfl ?_)); (try all_goals (try show retA _ _ _ _ _ _ _))
  refine w_freezeB 0 [.val (.int .i64 n), .sl 1 (intc (nl ns))] rfl rfl (by simp only [fbv_nil, fbv_cons, fbl_nil, fbl_cons, fbo_nil, fbo_cons, fbo_box, fbo_row, fbo_gone, fb_own, fb_val, fb_ro, fb_rpt, fb_ptr, fb_ept, fb_agg, fb_tup, fb_clo, fb_ints, fb_rows, fb_pairs, fb_ords, Nat.reduceEqDiff, ↓reduceIte, List.set_cons_zero, List.set_cons_succ]; exact rfl) (by simp only [fbv_nil, fbv_cons, fbl_nil, fbl_cons, fbo_nil, fbo_cons, fbo_box, fbo_row, fbo_gone, fb_own, fb_val, fb_ro, fb_rpt, fb_ptr, fb_ept, fb_agg, fb_tup, fb_clo, fb_ints, fb_rows, fb_pairs, fb_ords, Nat.reduceEqDiff, ↓reduceIte, List.set_cons_zero, List.set_cons_succ]; exact rfl) ?_
  (repeat' (first | refine a_seq ?_ | refine a_block ?_ | refine a_region ?_ | refine l_nil ?_ | (apply w_q; (focus (first | exact Q_move (by conv => lhs; whnf) | exact Q_assign (by conv => lhs; whnf) | exact Q_fieldAddr_rpt rfl KFl.h | exact Q_ld_rv rfl rfl KSc.h)); (focus exact rfl)) | (refine w_makeM 4 (fun _ => 0) (fun _ => 0) rfl rfl KSl.h KMk.h (by omega) (by first|(dsimp only[obA,obB,obD,obE,obF,obG,obI,List.map,AO.sh,AV.sh,AV.shl,Nat.reduceAdd];done)|exact rfl) (by first|(dsimp only[obA,obB,obD,obE,obF,obG,obI,List.map,AO.sh,AV.sh,AV.shl,Nat.reduceAdd];done)|exact rfl) rfl ?_))); (try all_goals (try show retA _ _ _ _ _ _ _))
  all_goals first
    | (exfalso; omega)
    | skip
  refine w_loop (X := Nat × (Nat → Nat) × (Nat → Nat)) [1, 3, 4] (by simp only [keepv, getv_cons, Nat.reduceEqDiff, ↓reduceIte]; exact rfl) (fun x => [(5, .val (.int .i64 (x.1 : Nat)))]) (fun x => [.gone, .mat 40 4 (blV n x.2.1 x.2.2 x.1)]) (fun x => x.1 ≤ n) (fun x => n - x.1) ((0, (fun _ => 0), (fun _ => 0))) ([0, 1]) ?_ ?_ rfl ?_ <;> (try dsimp only [List.cons_append, List.nil_append])
  · exact Nat.zero_le _
  · (refine St.le_mk rfl (VwOs.mk (by decide) ?_) ?_ <;> (repeat' (first | exact trivial | exact vwR rfl | exact Vw.own _ _ rfl | exact VwO.gone _ | exact VwO.mat _ _ _ | refine ⟨⟨_, rfl, ?_⟩, ?_⟩ | refine ⟨?_, ?_⟩ )))
  rintro ⟨i, gB, cC⟩ hi
  dsimp only at hi ⊢
  by_cases hin : i < n
  · (repeat' (first | refine a_seq ?_ | refine a_block ?_ | refine a_skip ?_ | refine a_region ?_ | refine l_nil ?_ | (apply w_q; (focus (first | exact Q_move (by conv => lhs; whnf) | exact Q_lss rfl rfl)); (focus exact rfl)) | (refine a_cond rfl ?_ ?_ <;> (intro h; (try (have hp := of_decide_eq_true h)); (try (have hp := of_decide_eq_false h)); (try contradiction); (try (exfalso; omega)))) | refine w_mk_bools rfl rfl rfl KSl.h KMk.h (by omega) (by first|(dsimp only[obA,obB,obD,obE,obF,obG,obI,List.map,AO.sh,AV.sh,AV.shl,Nat.reduceAdd];done)|exact rfl) (by first|(dsimp only[obA,obB,obD,obE,obF,obG,obI,List.map,AO.sh,AV.sh,AV.shl,Nat.reduceAdd];done)|exact rfl) rfl ?_ | (((first | apply w_q); (focus exact Q_ix_bl rfl rfl rfl rfl KSl.h (by omega)); (focus exact rfl))) | (refine w_stM rfl rfl (by omega) rfl rfl rfl rfl KSz.h fun gB2 cC2 => ?_))); (try all_goals (try show retA _ _ _ _ _ _ _))
    all_goals first
      | (exfalso; omega)
      | skip
    (repeat' (first | refine l_nil ?_ | (apply w_q; (focus (first | exact Q_assign (by conv => lhs; whnf) | exact Q_add rfl rfl (by omega))); (focus exact rfl)))); (try all_goals (try show retA _ _ _ _ _ _ _))
    all_goals first
      | (exfalso; omega)
      | (refine ⟨(i + 1, gB2, cC2), [0, 1], ?_, ?_, ?_, rfl⟩ <;> (try dsimp only)
         · show i + 1 ≤ n; omega
         · show n - (i + 1) < n - i; omega
         · (refine St.le_mk rfl (VwOs.mk (by decide) ?_) ?_ <;> (repeat' (first | exact trivial | exact vwR rfl | exact Vw.own _ _ rfl | exact VwO.gone _ | exact VwO.mat _ _ _ | refine ⟨⟨_, rfl, ?_⟩, ?_⟩ | refine ⟨?_, ?_⟩ ))))
      | (all_goals trace_state); fail
  obtain rfl : i = n := by omega
  rw [blV_full]
  (repeat' (first | refine a_seq ?_ | refine a_block ?_ | refine a_exit ?_ | refine a_region ?_ | refine l_nil ?_ | (apply w_q; (focus (first | exact Q_move (by conv => lhs; whnf) | exact Q_assign (by conv => lhs; whnf) | exact Q_lss rfl rfl)); (focus exact rfl)) | (refine a_cond rfl ?_ ?_ <;> (intro h; (try (have hp := of_decide_eq_true h)); (try (have hp := of_decide_eq_false h)); (try contradiction); (try (exfalso; omega)))))); (try all_goals (try show retA _ _ _ _ _ _ _))
  all_goals first
    | (exfalso; omega)
    | skip
  refine w_loop (X := Nat × (Nat → Nat → Bool)) [1, 3, 4] (by simp only [keepv, getv_cons, Nat.reduceEqDiff, ↓reduceIte]; exact rfl) (fun x => [(6, .val (.int .i64 (x.1 : Nat)))]) (fun x => [.gone, .mat 40 4 (mtV i gB cC x.2)]) (fun x => x.1 ≤ i ∧ ∀ u v, x.2 u v = true ↔ Ly (EA i ns) i (x.1 * i) u v) (fun x => i - x.1) ((0, fun _ _ => false)) ([0, 1]) ?_ ?_ rfl ?_ <;> (try dsimp only [List.cons_append, List.nil_append])
  · refine ⟨Nat.zero_le _, fun u v => ?_⟩
    show false = true ↔ Ly (EA i ns) i (0 * i) u v
    rw [Nat.zero_mul]
    exact ⟨fun h => (by cases h), fun h => h.elim⟩
  · (refine St.le_mk rfl (VwOs.mk (by decide) ?_) ?_ <;> (repeat' (first | exact trivial | exact vwR rfl | exact Vw.own _ _ rfl | exact VwO.gone _ | exact VwO.mat _ _ _ | refine ⟨⟨_, rfl, ?_⟩, ?_⟩ | refine ⟨?_, ?_⟩ )))
  rintro ⟨a, M⟩ ⟨ha, hL⟩
  dsimp only at ha hL ⊢
  by_cases hai : a < i
  · (repeat' (first | refine a_seq ?_ | refine a_block ?_ | refine a_skip ?_ | refine a_region ?_ | refine l_nil ?_ | (apply w_q; (focus (first | exact Q_move (by conv => lhs; whnf) | exact Q_assign (by conv => lhs; whnf) | exact Q_lss rfl rfl)); (focus exact rfl)) | (refine a_cond rfl ?_ ?_ <;> (intro h; (try (have hp := of_decide_eq_true h)); (try (have hp := of_decide_eq_false h)); (try contradiction); (try (exfalso; omega)))))); (try all_goals (try show retA _ _ _ _ _ _ _))
    all_goals first
      | (exfalso; omega)
      | skip
    refine w_loop (X := Nat × (Nat → Nat → Bool)) [1, 3, 4, 6] (by simp only [keepv, getv_cons, Nat.reduceEqDiff, ↓reduceIte]; exact rfl) (fun x => [(7, .val (.int .i64 (x.1 : Nat)))]) (fun x => [.gone, .mat 40 4 (mtV i gB cC x.2)]) (fun x => x.1 ≤ i ∧ ∀ u v, x.2 u v = true ↔ Ly (EA i ns) i (a * i + x.1) u v) (fun x => i - x.1) ((0, M)) ([0, 1]) ?_ ?_ rfl ?_ <;> (try dsimp only [List.cons_append, List.nil_append])
    · exact ⟨Nat.zero_le _, fun u v => hL u v⟩
    · (refine St.le_mk rfl (VwOs.mk (by decide) ?_) ?_ <;> (repeat' (first | exact trivial | exact vwR rfl | exact Vw.own _ _ rfl | exact VwO.gone _ | exact VwO.mat _ _ _ | refine ⟨⟨_, rfl, ?_⟩, ?_⟩ | refine ⟨?_, ?_⟩ )))
    clear hL
    rintro ⟨b, M⟩ ⟨hb, hL⟩
    dsimp only at hb hL ⊢
    by_cases hbi : b < i
    · have kab := kA a b hai hbi
      by_cases hnew : apf ns a b = true ∧ M a b = false ∧ M b a = false
      · obtain ⟨q1, q2, q3⟩ := hnew
        have hG := hg_new hai hbi hL q1 q2 q3
        rw [q1] at kab
        (repeat' (first | refine a_seq ?_ | refine a_block ?_ | refine a_skip ?_ | refine a_region ?_ | refine l_nil ?_ | (apply w_q; (focus (first | exact Q_move (by conv => lhs; whnf) | exact Q_assign (by conv => lhs; whnf) | exact Q_lss rfl rfl | exact Q_ld_rpa rfl KAg.h rfl rfl (by first | (dsimp only [List.drop_zero, List.drop_succ_cons, List.take_succ_cons, List.take_zero, List.map, ofD]; done) | exact rfl) | exact Q_not rfl | exact Q_pick_f rfl rfl (by conv => lhs; whnf))); (focus exact rfl)) | (refine a_cond rfl ?_ ?_ <;> (intro h; (try (have hp := of_decide_eq_true h)); (try (have hp := of_decide_eq_false h)); (try contradiction); (try (exfalso; omega)))) | refine w_guard_y rfl rfl rfl (by first | assumption | rfl) ?_ | (((first | apply w_q); (focus (refine Q_call (.inl ⟨rfl, rfl⟩) (kab) ?_; ((repeat' (first | exact trivial | exact vwR rfl | exact vwRL rfl | exact Vw.ro _ | refine Vw.agg' ?_ | refine ⟨?_, ?_⟩ )); done))); (focus exact rfl))) | (((first | apply w_q); (focus exact Q_ix_mt rfl rfl rfl rfl KSl.h (by omega)); (focus exact rfl))) | (((first | apply w_q); (focus exact Q_ld_mt rfl rfl (by omega) KSc.h); (focus exact rfl))) | (((first | apply w_q); (focus exact Q_ix_slv rfl rfl rfl KSl.h (by omega)); (focus exact rfl))) | (((first | apply w_q); (focus exact Q_ld_mbE 1 a b q2 rfl (by omega) (by omega) rfl KSc.h); (focus exact rfl))) | (((first | apply w_q); (focus exact Q_ld_mbE 1 b a q3 rfl (by omega) (by omega) rfl KSc.h); (focus exact rfl))) | (refine w_stI (id := 1) (a := a) (b := b) (by omega) (by omega) rfl rfl rfl KSz.h (by first|(dsimp only[obA,obB,obD,obE,obF,obG,obI,List.map,AO.sh,AV.sh,AV.shl,Nat.reduceAdd];done)|exact rfl) ?_))); (try all_goals (try show retA _ _ _ _ _ _ _))
        all_goals first
          | (exfalso; omega)
          | (exfalso; simp at *; done)
          | skip
        generalize updM M a b true = M9 at *
        clear hL q1 q2 q3 kab
        refine w_loop (X := Bool × (Nat → Nat → Bool)) [1, 3, 4, 6, 7] (by simp only [keepv, getv_cons, Nat.reduceEqDiff, ↓reduceIte]; exact rfl) (fun x => [(8, .val (.bool x.1))]) (fun x => [.gone, .mat 40 4 (mtV i gB cC x.2)]) (fun x => HG i ns (a * i + b) a b x.2 ∧ (x.1 = false → ∀ u v w, u < i → v < i → w < i → HC1 ns x.2 u v w ∧ HC2 ns x.2 u v w)) (fun x => if x.1 then i * i - cntM i x.2 + 1 else 0) ((true, M9)) ([0, 1]) ?_ ?_ rfl ?_ <;> (try dsimp only [List.cons_append, List.nil_append])
        · exact ⟨hG, fun h => by cases h⟩
        · (refine St.le_mk rfl (VwOs.mk (by decide) ?_) ?_ <;> (repeat' (first | exact trivial | exact vwR rfl | exact Vw.own _ _ rfl | exact VwO.gone _ | exact VwO.mat _ _ _ | refine ⟨⟨_, rfl, ?_⟩, ?_⟩ | refine ⟨?_, ?_⟩ )))
        clear hG
        rintro ⟨ag, M0⟩ ⟨hG, hC⟩
        dsimp only at hG hC ⊢
        cases ag
        · have hE := hg_end hG hai hbi (hC rfl)
          (repeat' (first | refine a_seq ?_ | refine a_exit ?_ | refine a_region ?_ | refine l_nil ?_ | (apply w_q; (focus (first | exact Q_move (by conv => lhs; whnf) | exact Q_assign (by conv => lhs; whnf) | exact Q_add rfl rfl (by omega))); (focus exact rfl)) | (refine a_cond rfl ?_ ?_ <;> (intro h; (try (have hp := of_decide_eq_true h)); (try (have hp := of_decide_eq_false h)); (try contradiction); (try (exfalso; omega)))))); (try all_goals (try show retA _ _ _ _ _ _ _))
          all_goals first
            | (exfalso; omega)
            | (refine ⟨(b + 1, M0), [0, 1], ?_, ?_, ?_, rfl⟩ <;> (try dsimp only)
               · exact ⟨by omega, hE⟩
               · show i - (b + 1) < i - b; omega
               · (refine St.le_mk rfl (VwOs.mk (by decide) ?_) ?_ <;> (repeat' (first | exact trivial | exact vwR rfl | exact Vw.own _ _ rfl | exact VwO.gone _ | exact VwO.mat _ _ _ | refine ⟨⟨_, rfl, ?_⟩, ?_⟩ | refine ⟨?_, ?_⟩ ))))
            | (all_goals trace_state); fail
        clear hC
        have h00 := HS.start hG
        clear hG
        (repeat' (first | refine a_seq ?_ | refine a_block ?_ | refine a_skip ?_ | refine a_region ?_ | refine l_nil ?_ | (apply w_q; (focus (first | exact Q_move (by conv => lhs; whnf) | exact Q_assign (by conv => lhs; whnf))); (focus exact rfl)) | (refine a_cond rfl ?_ ?_ <;> (intro h; (try (have hp := of_decide_eq_true h)); (try (have hp := of_decide_eq_false h)); (try contradiction); (try (exfalso; omega)))))); (try all_goals (try show retA _ _ _ _ _ _ _))
        all_goals first
          | (exfalso; omega)
          | skip
        refine w_loop (X := Nat × Bool × (Nat → Nat → Bool)) [1, 3, 4, 6, 7] (by simp only [keepv, getv_cons, Nat.reduceEqDiff, ↓reduceIte]; exact rfl) (fun x => [(8, .val (.bool x.2.1)), (9, .val (.int .i64 (x.1 : Nat)))]) (fun x => [.gone, .mat 40 4 (mtV i gB cC x.2.2)]) (fun x => x.1 ≤ i ∧ HS i ns (a * i + b) a b M0 x.2.1 x.2.2 x.1 0 0) (fun x => i - x.1) ((0, false, M0)) ([0, 1]) ?_ ?_ rfl ?_ <;> (try dsimp only [List.cons_append, List.nil_append])
        · exact ⟨Nat.zero_le _, h00⟩
        · (refine St.le_mk rfl (VwOs.mk (by decide) ?_) ?_ <;> (repeat' (first | exact trivial | exact vwR rfl | exact Vw.own _ _ rfl | exact VwO.gone _ | exact VwO.mat _ _ _ | refine ⟨⟨_, rfl, ?_⟩, ?_⟩ | refine ⟨?_, ?_⟩ )))
        clear h00
        rintro ⟨x, ag, M2⟩ ⟨hx, hP⟩
        dsimp only at hx hP ⊢
        by_cases hxi : x < i
        · (repeat' (first | refine a_seq ?_ | refine a_block ?_ | refine a_skip ?_ | refine a_region ?_ | refine l_nil ?_ | (apply w_q; (focus (first | exact Q_move (by conv => lhs; whnf) | exact Q_assign (by conv => lhs; whnf) | exact Q_lss rfl rfl)); (focus exact rfl)) | (refine a_cond rfl ?_ ?_ <;> (intro h; (try (have hp := of_decide_eq_true h)); (try (have hp := of_decide_eq_false h)); (try contradiction); (try (exfalso; omega)))))); (try all_goals (try show retA _ _ _ _ _ _ _))
          all_goals first
            | (exfalso; omega)
            | skip
          refine w_loop (X := Nat × Bool × (Nat → Nat → Bool)) [1, 3, 4, 6, 7, 9] (by simp only [keepv, getv_cons, Nat.reduceEqDiff, ↓reduceIte]; exact rfl) (fun t => [(8, .val (.bool t.2.1)), (10, .val (.int .i64 (t.1 : Nat)))]) (fun t => [.gone, .mat 40 4 (mtV i gB cC t.2.2)]) (fun t => t.1 ≤ i ∧ HS i ns (a * i + b) a b M0 t.2.1 t.2.2 x t.1 0) (fun t => i - t.1) ((0, ag, M2)) ([0, 1]) ?_ ?_ rfl ?_ <;> (try dsimp only [List.cons_append, List.nil_append])
          · exact ⟨Nat.zero_le _, hP⟩
          · (refine St.le_mk rfl (VwOs.mk (by decide) ?_) ?_ <;> (repeat' (first | exact trivial | exact vwR rfl | exact Vw.own _ _ rfl | exact VwO.gone _ | exact VwO.mat _ _ _ | refine ⟨⟨_, rfl, ?_⟩, ?_⟩ | refine ⟨?_, ?_⟩ )))
          clear hP
          rintro ⟨y, ag, M2⟩ ⟨hy, hP⟩
          dsimp only at hy hP ⊢
          by_cases hyi : y < i
          · (repeat' (first | refine a_seq ?_ | refine a_block ?_ | refine a_skip ?_ | refine a_region ?_ | refine l_nil ?_ | (apply w_q; (focus (first | exact Q_move (by conv => lhs; whnf) | exact Q_assign (by conv => lhs; whnf) | exact Q_lss rfl rfl)); (focus exact rfl)) | (refine a_cond rfl ?_ ?_ <;> (intro h; (try (have hp := of_decide_eq_true h)); (try (have hp := of_decide_eq_false h)); (try contradiction); (try (exfalso; omega)))))); (try all_goals (try show retA _ _ _ _ _ _ _))
            all_goals first
              | (exfalso; omega)
              | skip
            refine w_loop (X := Nat × Bool × (Nat → Nat → Bool)) [1, 3, 4, 6, 7, 9, 10] (by simp only [keepv, getv_cons, Nat.reduceEqDiff, ↓reduceIte]; exact rfl) (fun t => [(8, .val (.bool t.2.1)), (11, .val (.int .i64 (t.1 : Nat)))]) (fun t => [.gone, .mat 40 4 (mtV i gB cC t.2.2)]) (fun t => t.1 ≤ i ∧ HS i ns (a * i + b) a b M0 t.2.1 t.2.2 x y t.1) (fun t => i - t.1) ((0, ag, M2)) ([0, 1]) ?_ ?_ rfl ?_ <;> (try dsimp only [List.cons_append, List.nil_append])
            · exact ⟨Nat.zero_le _, hP⟩
            · (refine St.le_mk rfl (VwOs.mk (by decide) ?_) ?_ <;> (repeat' (first | exact trivial | exact vwR rfl | exact Vw.own _ _ rfl | exact VwO.gone _ | exact VwO.mat _ _ _ | refine ⟨⟨_, rfl, ?_⟩, ?_⟩ | refine ⟨?_, ?_⟩ )))
            clear hP
            rintro ⟨z, ag, M2⟩ ⟨hz, hP⟩
            dsimp only at hz hP ⊢
            by_cases hzi : z < i
            · cases hxy : M2 x y
              · have hP2 := hP.skip hxy
                (repeat' (first | refine a_seq ?_ | refine a_exit ?_ | refine a_region ?_ | refine l_nil ?_ | (apply w_q; (focus (first | exact Q_move (by conv => lhs; whnf) | exact Q_assign (by conv => lhs; whnf) | exact Q_lss rfl rfl | exact Q_add rfl rfl (by omega) | exact Q_pick_t rfl (by assumption) (by conv => lhs; whnf))); (focus exact rfl)) | (refine a_cond rfl ?_ ?_ <;> (intro h; (try (have hp := of_decide_eq_true h)); (try (have hp := of_decide_eq_false h)); (try contradiction); (try (exfalso; omega)))) | refine w_guard_y rfl rfl rfl (by first | assumption | rfl) ?_ | (refine w_guard rfl rfl rfl ?_ ?_ <;> (intro h; (try (have hp := of_decide_eq_true h)); (try (have hp := of_decide_eq_false h)); (try contradiction); (try (exfalso; omega)))) | (((first | apply w_q); (focus exact Q_ix_mt rfl rfl rfl rfl KSl.h (by omega)); (focus exact rfl))) | (((first | apply w_q); (focus exact Q_ld_mt rfl rfl (by omega) KSc.h); (focus exact rfl))) | (((first | apply w_q); (focus exact Q_ix_slv rfl rfl rfl KSl.h (by omega)); (focus exact rfl))) | (((first | apply w_q); (focus exact Q_ld_mbE 1 x y hxy rfl (by omega) (by omega) rfl KSc.h); (focus exact rfl))))); (try all_goals (try show retA _ _ _ _ _ _ _))
                all_goals first
                  | (exfalso; omega)
                  | (refine ⟨(y + 1, ag, M2), [0, 1], ?_, ?_, ?_, rfl⟩ <;> (try dsimp only)
                     · exact ⟨by omega, hP2⟩
                     · show i - (y + 1) < i - y; omega
                     · (refine St.le_mk rfl (VwOs.mk (by decide) ?_) ?_ <;> (repeat' (first | exact trivial | exact vwR rfl | exact Vw.own _ _ rfl | exact VwO.gone _ | exact VwO.mat _ _ _ | refine ⟨⟨_, rfl, ?_⟩, ?_⟩ | refine ⟨?_, ?_⟩ ))))
                  | (all_goals trace_state); fail
              · 
                (repeat' (first | (refine stopA (id := 27) ?_) | (first | refine a_seq ?_ | refine a_block ?_ | refine a_skip ?_ | refine a_region ?_ | refine l_nil ?_ | (apply w_q; (focus (first | exact Q_move (by conv => lhs; whnf) | exact Q_lss rfl rfl | exact Q_pick_t rfl (by assumption) (by conv => lhs; whnf))); (focus exact rfl)) | (refine a_cond rfl ?_ ?_ <;> (intro h; (try (have hp := of_decide_eq_true h)); (try (have hp := of_decide_eq_false h)); (try contradiction); (try (exfalso; omega)))) | refine w_guard_y rfl rfl rfl (by first | assumption | rfl) ?_ | (refine w_guard rfl rfl rfl ?_ ?_ <;> (intro h; (try (have hp := of_decide_eq_true h)); (try (have hp := of_decide_eq_false h)); (try contradiction); (try (exfalso; omega)))) | (((first | apply w_q); (focus exact Q_ix_mt rfl rfl rfl rfl KSl.h (by omega)); (focus exact rfl))) | (((first | apply w_q); (focus exact Q_ld_mt rfl rfl (by omega) KSc.h); (focus exact rfl))) | (((first | apply w_q); (focus exact Q_ix_slv rfl rfl rfl KSl.h (by omega)); (focus exact rfl))) | (((first | apply w_q); (focus exact Q_ld_mbE 1 x y hxy rfl (by omega) (by omega) rfl KSc.h); (focus exact rfl)))))); (try all_goals (try show retA _ _ _ _ _ _ _))
                
                all_goals first
                  | (exfalso; omega)
                  | skip
                unfold Stop
                have kxz := kA x z hxi hzi
                have kyz := kA y z hyi hzi
                have kzy := kA z y hzi hyi
                obtain ⟨v1, e1⟩ : ∃ v, apf ns x z = v := ⟨_, rfl⟩
                obtain ⟨v2, e2⟩ : ∃ v, apf ns y z = v := ⟨_, rfl⟩
                obtain ⟨v3, e3⟩ : ∃ v, apf ns z y = v := ⟨_, rfl⟩
                have hxx : apf ns x x = false := by unfold apf; simp
                have hyy : apf ns y y = false := by unfold apf; simp
                have hm1 := hP.one1 hzi hxy
                have hm0 := hP.one0 (z := z) hxy
                rw [e1] at kxz hm1 hm0
                rw [e2] at kyz hm1 hm0
                rw [e3] at kzy
                refine w_cutLJ (X := Bool × (Nat → Nat → Bool)) [1, 3, 4, 6, 7, 9, 10, 11] (by simp only [keepv, getv_cons, Nat.reduceEqDiff, ↓reduceIte]; exact rfl) (fun t => [(8, .val (.bool t.1))]) (fun t => [.gone, .mat 40 4 (mtV i gB cC t.2)]) (fun t => HM i ns (a * i + b) a b M0 t.1 t.2 x y z) ?_ ?_
                · obtain ⟨w, e4⟩ : ∃ w, M2 x z = w := ⟨_, rfl⟩
                  rw [e4] at hm1 hm0
                  have hc : (z ≠ x ∧ z ≠ y ∧ v1 = true ∧ v2 = false ∧ w = false ∧ HM i ns (a * i + b) a b M0 true (updM M2 x z true) x y z) ∨ (HM i ns (a * i + b) a b M0 ag M2 x y z ∧ (z = x ∨ (z ≠ x ∧ z = y) ∨ (z ≠ x ∧ z ≠ y ∧ v1 = false) ∨ (z ≠ x ∧ z ≠ y ∧ v1 = true ∧ v2 = true) ∨ (z ≠ x ∧ z ≠ y ∧ v1 = true ∧ v2 = false ∧ w = true))) := by
                    by_cases h1 : z = x
                    · exact .inr ⟨hm0 fun q _ => (by subst h1; rw [hxx] at e1; rw [← e1] at q; cases q), .inl h1⟩
                    by_cases h2 : z = y
                    · exact .inr ⟨hm0 fun _ _ => (by subst h2; rw [← e4]; exact hxy), .inr (.inl ⟨h1, h2⟩)⟩
                    cases v1
                    · exact .inr ⟨hm0 fun q => (by cases q), .inr (.inr (.inl ⟨h1, h2, rfl⟩))⟩
                    cases v2
                    · cases w
                      · exact .inl ⟨h1, h2, rfl, rfl, rfl, hm1 rfl rfl rfl⟩
                      · exact .inr ⟨hm0 fun _ _ => rfl, .inr (.inr (.inr (.inr ⟨h1, h2, rfl, rfl, rfl⟩)))⟩
                    · exact .inr ⟨hm0 fun _ q => (by cases q), .inr (.inr (.inr (.inl ⟨h1, h2, rfl, rfl⟩)))⟩
                  clear hm1 hm0
                  rcases hc with ⟨h1, h2, rfl, rfl, rfl, hH⟩ | ⟨hH, hc⟩
                  · (repeat' (first | refine a_seq ?_ | refine a_region ?_ | refine l_nil ?_ | (apply w_q; (focus (first | exact Q_move (by conv => lhs; whnf) | exact Q_assign (by conv => lhs; whnf) | exact Q_neq rfl rfl | exact Q_ld_rpa rfl KAg.h rfl rfl (by first | (dsimp only [List.drop_zero, List.drop_succ_cons, List.take_succ_cons, List.take_zero, List.map, ofD]; done) | exact rfl) | exact Q_not rfl | exact Q_pick_t rfl (by assumption) (by conv => lhs; whnf))); (focus exact rfl)) | (refine a_cond rfl ?_ ?_ <;> (intro h; (try (have hp := of_decide_eq_true h)); (try (have hp := of_decide_eq_false h)); (try contradiction); (try (exfalso; omega)))) | refine w_guard_y rfl rfl rfl (by first | assumption | rfl) ?_ | (refine w_guard rfl rfl rfl ?_ ?_ <;> (intro h; (try (have hp := of_decide_eq_true h)); (try (have hp := of_decide_eq_false h)); (try contradiction); (try (exfalso; omega)))) | (((first | apply w_q); (focus (refine Q_call (.inl ⟨rfl, rfl⟩) (kxz) ?_; ((repeat' (first | exact trivial | exact vwR rfl | exact vwRL rfl | exact Vw.ro _ | refine Vw.agg' ?_ | refine ⟨?_, ?_⟩ )); done))); (focus exact rfl))) | (((first | apply w_q); (focus (refine Q_call (.inl ⟨rfl, rfl⟩) (kyz) ?_; ((repeat' (first | exact trivial | exact vwR rfl | exact vwRL rfl | exact Vw.ro _ | refine Vw.agg' ?_ | refine ⟨?_, ?_⟩ )); done))); (focus exact rfl))) | (((first | apply w_q); (focus exact Q_ix_mt rfl rfl rfl rfl KSl.h (by omega)); (focus exact rfl))) | (((first | apply w_q); (focus exact Q_ld_mt rfl rfl (by omega) KSc.h); (focus exact rfl))) | (((first | apply w_q); (focus exact Q_ix_slv rfl rfl rfl KSl.h (by omega)); (focus exact rfl))) | (((first | apply w_q); (focus exact Q_ld_mbE 1 x z e4 rfl (by omega) (by omega) rfl KSc.h); (focus exact rfl))) | (refine w_stI (id := 1) (a := x) (b := z) (by omega) (by omega) rfl rfl rfl KSz.h (by first|(dsimp only[obA,obB,obD,obE,obF,obG,obI,List.map,AO.sh,AV.sh,AV.shl,Nat.reduceAdd];done)|exact rfl) ?_))); (try all_goals (try show retA _ _ _ _ _ _ _))
                    all_goals first
                      | (exfalso; omega)
                      | (exfalso; simp at *; done)
                      | (exact ⟨(true, updM M2 x z true), [0, 1], hH, by (refine St.le_mk rfl (VwOs.mk (by decide) ?_) ?_ <;> (repeat' (first | exact trivial | exact vwR rfl | exact Vw.own _ _ rfl | exact VwO.gone _ | exact VwO.mat _ _ _ | refine ⟨⟨_, rfl, ?_⟩, ?_⟩ | refine ⟨?_, ?_⟩ ))), rfl⟩)
                      | (all_goals trace_state); fail
                  · rcases hc with h1 | ⟨h1, h2⟩ | ⟨h1, h2, rfl⟩ | ⟨h1, h2, rfl, rfl⟩ | ⟨h1, h2, rfl, rfl, rfl⟩
                    all_goals
                      (repeat' (first | refine a_seq ?_ | refine a_skip ?_ | refine a_region ?_ | refine l_nil ?_ | (apply w_q; (focus (first | exact Q_move (by conv => lhs; whnf) | exact Q_neq rfl rfl | exact Q_ld_rpa rfl KAg.h rfl rfl (by first | (dsimp only [List.drop_zero, List.drop_succ_cons, List.take_succ_cons, List.take_zero, List.map, ofD]; done) | exact rfl) | exact Q_not rfl | exact Q_pick_t rfl (by assumption) (by conv => lhs; whnf) | exact Q_pick_f rfl (by assumption) (by conv => lhs; whnf))); (focus exact rfl)) | (refine a_cond rfl ?_ ?_ <;> (intro h; (try (have hp := of_decide_eq_true h)); (try (have hp := of_decide_eq_false h)); (try contradiction); (try (exfalso; omega)))) | refine w_guard_y rfl rfl rfl (by first | assumption | rfl) ?_ | refine w_guard_n rfl rfl rfl (by first | assumption | rfl) ?_ | (refine w_guard rfl rfl rfl ?_ ?_ <;> (intro h; (try (have hp := of_decide_eq_true h)); (try (have hp := of_decide_eq_false h)); (try contradiction); (try (exfalso; omega)))) | (((first | apply w_q); (focus (refine Q_call (.inl ⟨rfl, rfl⟩) (kxz) ?_; ((repeat' (first | exact trivial | exact vwR rfl | exact vwRL rfl | exact Vw.ro _ | refine Vw.agg' ?_ | refine ⟨?_, ?_⟩ )); done))); (focus exact rfl))) | (((first | apply w_q); (focus (refine Q_call (.inl ⟨rfl, rfl⟩) (kyz) ?_; ((repeat' (first | exact trivial | exact vwR rfl | exact vwRL rfl | exact Vw.ro _ | refine Vw.agg' ?_ | refine ⟨?_, ?_⟩ )); done))); (focus exact rfl))) | (((first | apply w_q); (focus exact Q_ix_mt rfl rfl rfl rfl KSl.h (by omega)); (focus exact rfl))) | (((first | apply w_q); (focus exact Q_ld_mt rfl rfl (by omega) KSc.h); (focus exact rfl))) | (((first | apply w_q); (focus exact Q_ix_slv rfl rfl rfl KSl.h (by omega)); (focus exact rfl))) | (((first | apply w_q); (focus exact Q_ld_mbE 1 x z e4 rfl (by omega) (by omega) rfl KSc.h); (focus exact rfl))))); (try all_goals (try show retA _ _ _ _ _ _ _))
                      all_goals first
                        | (exfalso; omega)
                        | (exfalso; simp at *; done)
                        | (exact ⟨(ag, M2), [0, 1], hH, by (refine St.le_mk rfl (VwOs.mk (by decide) ?_) ?_ <;> (repeat' (first | exact trivial | exact vwR rfl | exact Vw.own _ _ rfl | exact VwO.gone _ | exact VwO.mat _ _ _ | refine ⟨⟨_, rfl, ?_⟩, ?_⟩ | refine ⟨?_, ?_⟩ ))), rfl⟩)
                        | (all_goals trace_state); fail
                clear hP hm1 hm0
                rintro ⟨ag, M3⟩ hP
                dsimp only at hP ⊢
                have hxy3 := hP.xy
                have hm1 := hP.two1 hzi
                have hm0 := hP.two0
                obtain ⟨w, e4⟩ : ∃ w, M3 z y = w := ⟨_, rfl⟩
                rw [e4, e1, e3] at hm1 hm0
                have hc : (z ≠ x ∧ z ≠ y ∧ v3 = true ∧ v1 = false ∧ w = false ∧ HS i ns (a * i + b) a b M0 true (updM M3 z y true) x y (z + 1)) ∨ (HS i ns (a * i + b) a b M0 ag M3 x y (z + 1) ∧ (z = x ∨ (z ≠ x ∧ z = y) ∨ (z ≠ x ∧ z ≠ y ∧ v3 = false) ∨ (z ≠ x ∧ z ≠ y ∧ v3 = true ∧ v1 = true) ∨ (z ≠ x ∧ z ≠ y ∧ v3 = true ∧ v1 = false ∧ w = true))) := by
                  by_cases h1 : z = x
                  · exact .inr ⟨hm0 fun _ _ => (by subst h1; rw [← e4]; exact hxy3), .inl h1⟩
                  by_cases h2 : z = y
                  · exact .inr ⟨hm0 fun q _ => (by subst h2; rw [hyy] at e3; rw [← e3] at q; cases q), .inr (.inl ⟨h1, h2⟩)⟩
                  cases v3
                  · exact .inr ⟨hm0 fun q => (by cases q), .inr (.inr (.inl ⟨h1, h2, rfl⟩))⟩
                  cases v1
                  · cases w
                    · exact .inl ⟨h1, h2, rfl, rfl, rfl, hm1 rfl rfl rfl⟩
                    · exact .inr ⟨hm0 fun _ _ => rfl, .inr (.inr (.inr (.inr ⟨h1, h2, rfl, rfl, rfl⟩)))⟩
                  · exact .inr ⟨hm0 fun _ q => (by cases q), .inr (.inr (.inr (.inl ⟨h1, h2, rfl, rfl⟩)))⟩
                clear hm1 hm0 hP
                rcases hc with ⟨h1, h2, rfl, rfl, rfl, hH⟩ | ⟨hH, hc⟩
                · (repeat' (first | refine a_seq ?_ | refine a_region ?_ | refine l_nil ?_ | (apply w_q; (focus (first | exact Q_move (by conv => lhs; whnf) | exact Q_assign (by conv => lhs; whnf) | exact Q_neq rfl rfl | exact Q_add rfl rfl (by omega) | exact Q_ld_rpa rfl KAg.h rfl rfl (by first | (dsimp only [List.drop_zero, List.drop_succ_cons, List.take_succ_cons, List.take_zero, List.map, ofD]; done) | exact rfl) | exact Q_not rfl | exact Q_pick_t rfl (by assumption) (by conv => lhs; whnf))); (focus exact rfl)) | (refine a_cond rfl ?_ ?_ <;> (intro h; (try (have hp := of_decide_eq_true h)); (try (have hp := of_decide_eq_false h)); (try contradiction); (try (exfalso; omega)))) | refine w_guard_y rfl rfl rfl (by first | assumption | rfl) ?_ | (refine w_guard rfl rfl rfl ?_ ?_ <;> (intro h; (try (have hp := of_decide_eq_true h)); (try (have hp := of_decide_eq_false h)); (try contradiction); (try (exfalso; omega)))) | (((first | apply w_q); (focus (refine Q_call (.inl ⟨rfl, rfl⟩) (kxz) ?_; ((repeat' (first | exact trivial | exact vwR rfl | exact vwRL rfl | exact Vw.ro _ | refine Vw.agg' ?_ | refine ⟨?_, ?_⟩ )); done))); (focus exact rfl))) | (((first | apply w_q); (focus (refine Q_call (.inl ⟨rfl, rfl⟩) (kzy) ?_; ((repeat' (first | exact trivial | exact vwR rfl | exact vwRL rfl | exact Vw.ro _ | refine Vw.agg' ?_ | refine ⟨?_, ?_⟩ )); done))); (focus exact rfl))) | (((first | apply w_q); (focus exact Q_ix_mt rfl rfl rfl rfl KSl.h (by omega)); (focus exact rfl))) | (((first | apply w_q); (focus exact Q_ld_mt rfl rfl (by omega) KSc.h); (focus exact rfl))) | (((first | apply w_q); (focus exact Q_ix_slv rfl rfl rfl KSl.h (by omega)); (focus exact rfl))) | (((first | apply w_q); (focus exact Q_ld_mbE 1 z y e4 rfl (by omega) (by omega) rfl KSc.h); (focus exact rfl))) | (refine w_stI (id := 1) (a := z) (b := y) (by omega) (by omega) rfl rfl rfl KSz.h (by first|(dsimp only[obA,obB,obD,obE,obF,obG,obI,List.map,AO.sh,AV.sh,AV.shl,Nat.reduceAdd];done)|exact rfl) ?_))); (try all_goals (try show retA _ _ _ _ _ _ _))
                  all_goals first
                    | (exfalso; omega)
                    | (exfalso; simp at *; done)
                    | (refine ⟨(z + 1, true, updM M3 z y true), [0, 1], ?_, ?_, ?_, rfl⟩ <;> (try dsimp only)
                       · exact ⟨by omega, hH⟩
                       · show i - (z + 1) < i - z; omega
                       · (refine St.le_mk rfl (VwOs.mk (by decide) ?_) ?_ <;> (repeat' (first | exact trivial | exact vwR rfl | exact Vw.own _ _ rfl | exact VwO.gone _ | exact VwO.mat _ _ _ | refine ⟨⟨_, rfl, ?_⟩, ?_⟩ | refine ⟨?_, ?_⟩ ))))
                    | (all_goals trace_state); fail
                · rcases hc with h1 | ⟨h1, h2⟩ | ⟨h1, h2, rfl⟩ | ⟨h1, h2, rfl, rfl⟩ | ⟨h1, h2, rfl, rfl, rfl⟩
                  all_goals
                    (repeat' (first | refine a_seq ?_ | refine a_skip ?_ | refine a_region ?_ | refine l_nil ?_ | (apply w_q; (focus (first | exact Q_move (by conv => lhs; whnf) | exact Q_assign (by conv => lhs; whnf) | exact Q_neq rfl rfl | exact Q_add rfl rfl (by omega) | exact Q_ld_rpa rfl KAg.h rfl rfl (by first | (dsimp only [List.drop_zero, List.drop_succ_cons, List.take_succ_cons, List.take_zero, List.map, ofD]; done) | exact rfl) | exact Q_not rfl | exact Q_pick_t rfl (by assumption) (by conv => lhs; whnf) | exact Q_pick_f rfl (by assumption) (by conv => lhs; whnf))); (focus exact rfl)) | (refine a_cond rfl ?_ ?_ <;> (intro h; (try (have hp := of_decide_eq_true h)); (try (have hp := of_decide_eq_false h)); (try contradiction); (try (exfalso; omega)))) | refine w_guard_y rfl rfl rfl (by first | assumption | rfl) ?_ | refine w_guard_n rfl rfl rfl (by first | assumption | rfl) ?_ | (refine w_guard rfl rfl rfl ?_ ?_ <;> (intro h; (try (have hp := of_decide_eq_true h)); (try (have hp := of_decide_eq_false h)); (try contradiction); (try (exfalso; omega)))) | (((first | apply w_q); (focus (refine Q_call (.inl ⟨rfl, rfl⟩) (kxz) ?_; ((repeat' (first | exact trivial | exact vwR rfl | exact vwRL rfl | exact Vw.ro _ | refine Vw.agg' ?_ | refine ⟨?_, ?_⟩ )); done))); (focus exact rfl))) | (((first | apply w_q); (focus (refine Q_call (.inl ⟨rfl, rfl⟩) (kzy) ?_; ((repeat' (first | exact trivial | exact vwR rfl | exact vwRL rfl | exact Vw.ro _ | refine Vw.agg' ?_ | refine ⟨?_, ?_⟩ )); done))); (focus exact rfl))) | (((first | apply w_q); (focus exact Q_ix_mt rfl rfl rfl rfl KSl.h (by omega)); (focus exact rfl))) | (((first | apply w_q); (focus exact Q_ld_mt rfl rfl (by omega) KSc.h); (focus exact rfl))) | (((first | apply w_q); (focus exact Q_ix_slv rfl rfl rfl KSl.h (by omega)); (focus exact rfl))) | (((first | apply w_q); (focus exact Q_ld_mbE 1 z y e4 rfl (by omega) (by omega) rfl KSc.h); (focus exact rfl))))); (try all_goals (try show retA _ _ _ _ _ _ _))
                    all_goals first
                      | (exfalso; omega)
                      | (exfalso; simp at *; done)
                      | (refine ⟨(z + 1, ag, M3), [0, 1], ?_, ?_, ?_, rfl⟩ <;> (try dsimp only)
                         · exact ⟨by omega, hH⟩
                         · show i - (z + 1) < i - z; omega
                         · (refine St.le_mk rfl (VwOs.mk (by decide) ?_) ?_ <;> (repeat' (first | exact trivial | exact vwR rfl | exact Vw.own _ _ rfl | exact VwO.gone _ | exact VwO.mat _ _ _ | refine ⟨⟨_, rfl, ?_⟩, ?_⟩ | refine ⟨?_, ?_⟩ ))))
                      | (all_goals trace_state); fail
            · obtain rfl : z = i := by omega
              have hP2 := hP.to (x2 := x) (y2 := y + 1) (z2 := 0) fun u v w h1 h2 h3 h4 => by unfold DnV at *; omega
              (repeat' (first | refine a_seq ?_ | refine a_exit ?_ | refine a_region ?_ | refine l_nil ?_ | (apply w_q; (focus (first | exact Q_move (by conv => lhs; whnf) | exact Q_assign (by conv => lhs; whnf) | exact Q_lss rfl rfl | exact Q_add rfl rfl (by omega) | exact Q_pick_f rfl (by assumption) (by conv => lhs; whnf))); (focus exact rfl)) | (refine a_cond rfl ?_ ?_ <;> (intro h; (try (have hp := of_decide_eq_true h)); (try (have hp := of_decide_eq_false h)); (try contradiction); (try (exfalso; omega)))) | refine w_guard_n rfl rfl rfl (by first | assumption | rfl) ?_)); (try all_goals (try show retA _ _ _ _ _ _ _))
              all_goals first
                | (exfalso; omega)
                | (refine ⟨(y + 1, ag, M2), [0, 1], ?_, ?_, ?_, rfl⟩ <;> (try dsimp only)
                   · exact ⟨by omega, hP2⟩
                   · show z - (y + 1) < z - y; omega
                   · (refine St.le_mk rfl (VwOs.mk (by decide) ?_) ?_ <;> (repeat' (first | exact trivial | exact vwR rfl | exact Vw.own _ _ rfl | exact VwO.gone _ | exact VwO.mat _ _ _ | refine ⟨⟨_, rfl, ?_⟩, ?_⟩ | refine ⟨?_, ?_⟩ ))))
                | (all_goals trace_state); fail
          · obtain rfl : y = i := by omega
            have hP2 := hP.to (x2 := x + 1) (y2 := 0) (z2 := 0) fun u v w h1 h2 h3 h4 => by unfold DnV at *; omega
            (repeat' (first | refine a_seq ?_ | refine a_exit ?_ | refine a_region ?_ | refine l_nil ?_ | (apply w_q; (focus (first | exact Q_move (by conv => lhs; whnf) | exact Q_assign (by conv => lhs; whnf) | exact Q_lss rfl rfl | exact Q_add rfl rfl (by omega))); (focus exact rfl)) | (refine a_cond rfl ?_ ?_ <;> (intro h; (try (have hp := of_decide_eq_true h)); (try (have hp := of_decide_eq_false h)); (try contradiction); (try (exfalso; omega)))))); (try all_goals (try show retA _ _ _ _ _ _ _))
            all_goals first
              | (exfalso; omega)
              | (refine ⟨(x + 1, ag, M2), [0, 1], ?_, ?_, ?_, rfl⟩ <;> (try dsimp only)
                 · exact ⟨by omega, hP2⟩
                 · show y - (x + 1) < y - x; omega
                 · (refine St.le_mk rfl (VwOs.mk (by decide) ?_) ?_ <;> (repeat' (first | exact trivial | exact vwR rfl | exact Vw.own _ _ rfl | exact VwO.gone _ | exact VwO.mat _ _ _ | refine ⟨⟨_, rfl, ?_⟩, ?_⟩ | refine ⟨?_, ?_⟩ ))))
              | (all_goals trace_state); fail
        · obtain rfl : x = i := by omega
          have hle1 := cntM_le x M0
          have hle2 := cntM_le x M2
          (repeat' (first | refine a_seq ?_ | refine a_exit ?_ | refine a_region ?_ | refine l_nil ?_ | (apply w_q; (focus (first | exact Q_move (by conv => lhs; whnf) | exact Q_lss rfl rfl)); (focus exact rfl)) | (refine a_cond rfl ?_ ?_ <;> (intro h; (try (have hp := of_decide_eq_true h)); (try (have hp := of_decide_eq_false h)); (try contradiction); (try (exfalso; omega)))))); (try all_goals (try show retA _ _ _ _ _ _ _))
          all_goals first
            | (exfalso; omega)
            | (refine ⟨(ag, M2), [0, 1], ?_, ?_, ?_, rfl⟩ <;> (try dsimp only)
               · refine ⟨hP.g, fun h => ?_⟩
                 subst h; exact hP.fin
               · cases ag
                 · simp
                 · have := hP.ys rfl
                   simp
                   omega
               · (refine St.le_mk rfl (VwOs.mk (by decide) ?_) ?_ <;> (repeat' (first | exact trivial | exact vwR rfl | exact Vw.own _ _ rfl | exact VwO.gone _ | exact VwO.mat _ _ _ | refine ⟨⟨_, rfl, ?_⟩, ?_⟩ | refine ⟨?_, ?_⟩ ))))
            | (all_goals trace_state); fail
      · have hO := hg_old hbi hL hnew
        obtain ⟨v1, e1⟩ : ∃ v, apf ns a b = v := ⟨_, rfl⟩
        obtain ⟨v2, e2⟩ : ∃ v, M a b = v := ⟨_, rfl⟩
        obtain ⟨v3, e3⟩ : ∃ v, M b a = v := ⟨_, rfl⟩
        have hc : v1 = false ∨ v1 = true ∧ (v2 = true ∨ v2 = false ∧ v3 = true) := by
          rw [e1, e2, e3] at hnew
          revert hnew
          cases v1 <;> cases v2 <;> cases v3 <;> simp
        rw [e1] at kab
        clear hnew hL
        rcases hc with rfl | ⟨rfl, rfl | ⟨rfl, rfl⟩⟩
        all_goals
          (repeat' (first | refine a_seq ?_ | refine a_block ?_ | refine a_skip ?_ | refine a_exit ?_ | refine a_region ?_ | refine l_nil ?_ | (apply w_q; (focus (first | exact Q_move (by conv => lhs; whnf) | exact Q_assign (by conv => lhs; whnf) | exact Q_lss rfl rfl | exact Q_add rfl rfl (by omega) | exact Q_ld_rpa rfl KAg.h rfl rfl (by first | (dsimp only [List.drop_zero, List.drop_succ_cons, List.take_succ_cons, List.take_zero, List.map, ofD]; done) | exact rfl) | exact Q_not rfl | exact Q_pick_t rfl rfl (by conv => lhs; whnf) | exact Q_pick_f rfl rfl (by conv => lhs; whnf))); (focus exact rfl)) | (refine a_cond rfl ?_ ?_ <;> (intro h; (try (have hp := of_decide_eq_true h)); (try (have hp := of_decide_eq_false h)); (try contradiction); (try (exfalso; omega)))) | refine w_guard_y rfl rfl rfl (by first | assumption | rfl) ?_ | refine w_guard_n rfl rfl rfl (by first | assumption | rfl) ?_ | (((first | apply w_q); (focus (refine Q_call (.inl ⟨rfl, rfl⟩) (kab) ?_; ((repeat' (first | exact trivial | exact vwR rfl | exact vwRL rfl | exact Vw.ro _ | refine Vw.agg' ?_ | refine ⟨?_, ?_⟩ )); done))); (focus exact rfl))) | (((first | apply w_q); (focus exact Q_ix_mt rfl rfl rfl rfl KSl.h (by omega)); (focus exact rfl))) | (((first | apply w_q); (focus exact Q_ld_mt rfl rfl (by omega) KSc.h); (focus exact rfl))) | (((first | apply w_q); (focus exact Q_ix_slv rfl rfl rfl KSl.h (by omega)); (focus exact rfl))) | (((first | apply w_q); (focus exact Q_ld_mbE 1 a b e2 rfl (by omega) (by omega) rfl KSc.h); (focus exact rfl))) | (((first | apply w_q); (focus exact Q_ld_mbE 1 b a e3 rfl (by omega) (by omega) rfl KSc.h); (focus exact rfl))))); (try all_goals (try show retA _ _ _ _ _ _ _))
          all_goals first
            | (exfalso; omega)
            | (exfalso; simp at *; done)
            | (refine ⟨(b + 1, M), [0, 1], ?_, ?_, ?_, rfl⟩ <;> (try dsimp only)
               · exact ⟨by omega, hO⟩
               · show i - (b + 1) < i - b; omega
               · (refine St.le_mk rfl (VwOs.mk (by decide) ?_) ?_ <;> (repeat' (first | exact trivial | exact vwR rfl | exact Vw.own _ _ rfl | exact VwO.gone _ | exact VwO.mat _ _ _ | refine ⟨⟨_, rfl, ?_⟩, ?_⟩ | refine ⟨?_, ?_⟩ ))))
            | (all_goals trace_state); fail
    · obtain rfl : b = i := by omega
      rw [← Nat.succ_mul] at hL
      (repeat' (first | refine a_seq ?_ | refine a_exit ?_ | refine a_region ?_ | refine l_nil ?_ | (apply w_q; (focus (first | exact Q_move (by conv => lhs; whnf) | exact Q_assign (by conv => lhs; whnf) | exact Q_lss rfl rfl | exact Q_add rfl rfl (by omega))); (focus exact rfl)) | (refine a_cond rfl ?_ ?_ <;> (intro h; (try (have hp := of_decide_eq_true h)); (try (have hp := of_decide_eq_false h)); (try contradiction); (try (exfalso; omega)))))); (try all_goals (try show retA _ _ _ _ _ _ _))
      all_goals first
        | (exfalso; omega)
        | (refine ⟨(a + 1, M), [0, 1], ?_, ?_, ?_, rfl⟩ <;> (try dsimp only)
           · exact ⟨by omega, hL⟩
           · show b - (a + 1) < b - a; omega
           · (refine St.le_mk rfl (VwOs.mk (by decide) ?_) ?_ <;> (repeat' (first | exact trivial | exact vwR rfl | exact Vw.own _ _ rfl | exact VwO.gone _ | exact VwO.mat _ _ _ | refine ⟨⟨_, rfl, ?_⟩, ?_⟩ | refine ⟨?_, ?_⟩ ))))
        | (all_goals trace_state); fail
  obtain rfl : a = i := by omega
  have hT : Tro (EA a ns) a ↔ ∀ u v, M u v = true → ¬ M v u = true := ⟨fun h u v h1 h2 => h u v ((hL u v).1 h1) ((hL v u).1 h2), fun h u v h1 h2 => h u v ((hL u v).2 h1) ((hL v u).2 h2)⟩
  have hin : ∀ u v, M u v = true → u < a ∧ v < a := fun u v h => ⟨(ly_edge ((hL u v).1 h)).l, (ly_edge ((hL u v).1 h)).r⟩
  rw [hT] at hres
  clear hT hL kA
  (repeat' (first | refine a_seq ?_ | refine a_block ?_ | refine a_exit ?_ | refine a_region ?_ | refine l_nil ?_ | (apply w_q; (focus (first | exact Q_move (by conv => lhs; whnf) | exact Q_assign (by conv => lhs; whnf) | exact Q_lss rfl rfl)); (focus exact rfl)) | (refine a_cond rfl ?_ ?_ <;> (intro h; (try (have hp := of_decide_eq_true h)); (try (have hp := of_decide_eq_false h)); (try contradiction); (try (exfalso; omega)))))); (try all_goals (try show retA _ _ _ _ _ _ _))
  all_goals first
    | (exfalso; omega)
    | skip
  refine w_loop (X := Nat) [3, 4] (by simp only [keepv, getv_cons, Nat.reduceEqDiff, ↓reduceIte]; exact rfl) (fun x => [(12, .val (.int .i64 (x : Nat)))]) (fun _ => [.gone, .mat 40 4 (mtV a gB cC M)]) (fun x => x ≤ a ∧ ∀ u v, u < x → M u v = true → ¬ M v u = true) (fun x => a - x) (0) ([0, 1]) ?_ ?_ rfl ?_ <;> (try dsimp only [List.cons_append, List.nil_append])
  · exact ⟨Nat.zero_le _, fun u v h => absurd h (Nat.not_lt_zero _)⟩
  · (refine St.le_mk rfl (VwOs.mk (by decide) ?_) ?_ <;> (repeat' (first | exact trivial | exact vwR rfl | exact Vw.own _ _ rfl | exact VwO.gone _ | exact VwO.mat _ _ _ | refine ⟨⟨_, rfl, ?_⟩, ?_⟩ | refine ⟨?_, ?_⟩ )))
  rintro x ⟨hx, hall⟩
  by_cases hxa : x < a
  · (repeat' (first | refine a_seq ?_ | refine a_block ?_ | refine a_skip ?_ | refine a_region ?_ | refine l_nil ?_ | (apply w_q; (focus (first | exact Q_move (by conv => lhs; whnf) | exact Q_assign (by conv => lhs; whnf) | exact Q_lss rfl rfl)); (focus exact rfl)) | (refine a_cond rfl ?_ ?_ <;> (intro h; (try (have hp := of_decide_eq_true h)); (try (have hp := of_decide_eq_false h)); (try contradiction); (try (exfalso; omega)))))); (try all_goals (try show retA _ _ _ _ _ _ _))
    all_goals first
      | (exfalso; omega)
      | skip
    refine w_loop (X := Nat) [3, 4, 12] (by simp only [keepv, getv_cons, Nat.reduceEqDiff, ↓reduceIte]; exact rfl) (fun y => [(13, .val (.int .i64 (y : Nat)))]) (fun _ => [.gone, .mat 40 4 (mtV a gB cC M)]) (fun y => y ≤ a ∧ ∀ v, v < y → M x v = true → ¬ M v x = true) (fun y => a - y) (0) ([0, 1]) ?_ ?_ rfl ?_ <;> (try dsimp only [List.cons_append, List.nil_append])
    · exact ⟨Nat.zero_le _, fun v h => absurd h (Nat.not_lt_zero _)⟩
    · (refine St.le_mk rfl (VwOs.mk (by decide) ?_) ?_ <;> (repeat' (first | exact trivial | exact vwR rfl | exact Vw.own _ _ rfl | exact VwO.gone _ | exact VwO.mat _ _ _ | refine ⟨⟨_, rfl, ?_⟩, ?_⟩ | refine ⟨?_, ?_⟩ )))
    rintro y ⟨hy, hall2⟩
    by_cases hya : y < a
    · by_cases hboth : M x y = true ∧ M y x = true
      · obtain ⟨q1, q2⟩ := hboth
        have hf : res = false := by
          cases res
          · rfl
          · exact absurd q2 (hres.1 rfl x y q1)
        subst hf
        (repeat' (first | refine a_seq ?_ | refine a_block ?_ | refine a_skip ?_ | refine a_ret ?_ | refine a_region ?_ | refine l_nil ?_ | (apply w_q; (focus (first | exact Q_move (by conv => lhs; whnf) | exact Q_assign (by conv => lhs; whnf) | exact Q_lss rfl rfl | exact Q_pick_t rfl rfl (by conv => lhs; whnf))); (focus exact rfl)) | (refine a_cond rfl ?_ ?_ <;> (intro h; (try (have hp := of_decide_eq_true h)); (try (have hp := of_decide_eq_false h)); (try contradiction); (try (exfalso; omega)))) | refine w_guard_y rfl rfl rfl (by first | assumption | rfl) ?_ | (((first | apply w_q); (focus exact Q_ix_mt rfl rfl rfl rfl KSl.h (by omega)); (focus exact rfl))) | (((first | apply w_q); (focus exact Q_ld_mt rfl rfl (by omega) KSc.h); (focus exact rfl))) | (((first | apply w_q); (focus exact Q_ix_slv rfl rfl rfl KSl.h (by omega)); (focus exact rfl))) | (((first | apply w_q); (focus exact Q_ld_mbE 1 x y q1 rfl (by omega) (by omega) rfl KSc.h); (focus exact rfl))) | (((first | apply w_q); (focus exact Q_ld_mbE 1 y x q2 rfl (by omega) (by omega) rfl KSc.h); (focus exact rfl))))); (try all_goals (try show retA _ _ _ _ _ _ _))
        all_goals first
          | (exfalso; omega)
          | (exfalso; simp at *; done)
          | (refine ⟨[_], [], ⟨resV_tmp (by conv => lhs; whnf), trivial⟩, VwOs.mk (by decide) trivial, ?_, rfl⟩; (repeat' (first | exact vwR rfl)); done)
          | (all_goals trace_state); fail
      · have hO : ∀ v, v < y + 1 → M x v = true → ¬ M v x = true := fun v hv h1 h2 => by
          by_cases e : v = y
          · subst e; exact hboth ⟨h1, h2⟩
          · exact hall2 v (by omega) h1 h2
        obtain ⟨v1, e1⟩ : ∃ v, M x y = v := ⟨_, rfl⟩
        obtain ⟨v2, e2⟩ : ∃ v, M y x = v := ⟨_, rfl⟩
        have hc : v1 = false ∨ v1 = true ∧ v2 = false := by
          rw [e1, e2] at hboth
          revert hboth
          cases v1 <;> cases v2 <;> simp
        clear hboth
        rcases hc with rfl | ⟨rfl, rfl⟩
        all_goals
          (repeat' (first | refine a_seq ?_ | refine a_block ?_ | refine a_skip ?_ | refine a_region ?_ | refine l_nil ?_ | (apply w_q; (focus (first | exact Q_move (by conv => lhs; whnf) | exact Q_assign (by conv => lhs; whnf) | exact Q_lss rfl rfl | exact Q_add rfl rfl (by omega) | exact Q_pick_t rfl rfl (by conv => lhs; whnf) | exact Q_pick_f rfl rfl (by conv => lhs; whnf))); (focus exact rfl)) | (refine a_cond rfl ?_ ?_ <;> (intro h; (try (have hp := of_decide_eq_true h)); (try (have hp := of_decide_eq_false h)); (try contradiction); (try (exfalso; omega)))) | refine w_guard_y rfl rfl rfl (by first | assumption | rfl) ?_ | refine w_guard_n rfl rfl rfl (by first | assumption | rfl) ?_ | (((first | apply w_q); (focus exact Q_ix_mt rfl rfl rfl rfl KSl.h (by omega)); (focus exact rfl))) | (((first | apply w_q); (focus exact Q_ld_mt rfl rfl (by omega) KSc.h); (focus exact rfl))) | (((first | apply w_q); (focus exact Q_ix_slv rfl rfl rfl KSl.h (by omega)); (focus exact rfl))) | (((first | apply w_q); (focus exact Q_ld_mbE 1 x y e1 rfl (by omega) (by omega) rfl KSc.h); (focus exact rfl))) | (((first | apply w_q); (focus exact Q_ld_mbE 1 y x e2 rfl (by omega) (by omega) rfl KSc.h); (focus exact rfl))))); (try all_goals (try show retA _ _ _ _ _ _ _))
          all_goals first
            | (exfalso; omega)
            | (exfalso; simp at *; done)
            | (refine ⟨y + 1, [0, 1], ?_, ?_, ?_, rfl⟩ <;> (try dsimp only)
               · exact ⟨by omega, hO⟩
               · omega
               · (refine St.le_mk rfl (VwOs.mk (by decide) ?_) ?_ <;> (repeat' (first | exact trivial | exact vwR rfl | exact Vw.own _ _ rfl | exact VwO.gone _ | exact VwO.mat _ _ _ | refine ⟨⟨_, rfl, ?_⟩, ?_⟩ | refine ⟨?_, ?_⟩ ))))
            | (all_goals trace_state); fail
    · have hO : ∀ u v, u < x + 1 → M u v = true → ¬ M v u = true := fun u v hu h1 h2 => by
        by_cases e : u = x
        · subst e; exact hall2 v (by have := (hin _ _ h1).2; omega) h1 h2
        · exact hall u v (by omega) h1 h2
      (repeat' (first | refine a_seq ?_ | refine a_exit ?_ | refine a_region ?_ | refine l_nil ?_ | (apply w_q; (focus (first | exact Q_move (by conv => lhs; whnf) | exact Q_assign (by conv => lhs; whnf) | exact Q_lss rfl rfl | exact Q_add rfl rfl (by omega))); (focus exact rfl)) | (refine a_cond rfl ?_ ?_ <;> (intro h; (try (have hp := of_decide_eq_true h)); (try (have hp := of_decide_eq_false h)); (try contradiction); (try (exfalso; omega)))))); (try all_goals (try show retA _ _ _ _ _ _ _))
      all_goals first
        | (exfalso; omega)
        | (refine ⟨x + 1, [0, 1], ?_, ?_, ?_, rfl⟩ <;> (try dsimp only)
           · exact ⟨by omega, hO⟩
           · omega
           · (refine St.le_mk rfl (VwOs.mk (by decide) ?_) ?_ <;> (repeat' (first | exact trivial | exact vwR rfl | exact Vw.own _ _ rfl | exact VwO.gone _ | exact VwO.mat _ _ _ | refine ⟨⟨_, rfl, ?_⟩, ?_⟩ | refine ⟨?_, ?_⟩ ))))
        | (all_goals trace_state); fail
  · have ht : res = true := hres.2 fun u v h1 h2 => hall u v (by have := (hin _ _ h1).1; omega) h1 h2
    subst ht
    (repeat' (first | refine a_seq ?_ | refine a_ret ?_ | refine a_exit ?_ | refine a_region ?_ | refine l_nil ?_ | (apply w_q; (focus (first | exact Q_move (by conv => lhs; whnf) | exact Q_assign (by conv => lhs; whnf) | exact Q_lss rfl rfl)); (focus exact rfl)) | (refine a_cond rfl ?_ ?_ <;> (intro h; (try (have hp := of_decide_eq_true h)); (try (have hp := of_decide_eq_false h)); (try contradiction); (try (exfalso; omega)))))); (try all_goals (try show retA _ _ _ _ _ _ _))
    all_goals first
      | (exfalso; omega)
      | (refine ⟨[_], [], ⟨resV_tmp (by conv => lhs; whnf), trivial⟩, VwOs.mk (by decide) trivial, ?_, rfl⟩; (repeat' (first | exact vwR rfl)); done)
      | (all_goals trace_state); fail
end Go.Proofs.Ytgojkabjgagjcaa
