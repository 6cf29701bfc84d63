import Derived.Test.YtpfldhaaiglgdaaDoorScf
set_option linter.unusedSimpArgs false
set_option linter.unusedVariables false
set_option linter.unusedSectionVars false
set_option maxRecDepth 20000
namespace Go.Proofs.YtpfldhaaiglgdaaDoor
attribute [local irreducible] QOp aL aC qL
section
variable {P : Program} {st : St} {d : Option Tmp} {ty : TypeId} {pos : String} {af : Array Edge} {g : Option (Nat × Bool)} {T T' : TypeId} {x y : Operand}
theorem Q_neqif {U : TypeId} {v : Value} (hx : st.ev x = .val (.iface U v)) (hy : st.ev y = .val .nilIface) (ht : ∀ w : World, (binOp .neq T (.iface U v) .nilIface).run P w = .ok (.bool true) w) (hg : ∀ (x y : Operand) (w : World), (eqGuard .neq T x y (.iface U v) .nilIface).run P w = .ok () w) : QOp P ⟨d, .binOp .neq T x y T', ty, pos, af, g⟩ st (.val (.bool true)) :=
  .run fun _ _ a hr => ⟨_, .val _, fun w1 _ => by
    simp only [execOp, hr.evv hx, hr.evv hy, Sem.run_bind, hg, Result.andThen_ok, ht, Sem.run_pure]⟩
theorem gm_tassert {ρ : Ids} {w : World} {M : Nat → Prop} {m n : Int} : Gm ρ w M (.tup [.agg [.val (.int .i64 m), .val (.int .i64 n)], .val (.bool true)]) (.tuple #[.agg #[.int .i64 m, .int .i64 n], .bool true]) := by
  refine .tup _ _ rfl fun i av v h1 h2 => ?_
  rcases i with _ | _ | i
  · simp at h1 h2; subst h1 h2
    refine .agg _ _ rfl fun i av v h1 h2 => ?_
    rcases i with _ | _ | i
    · simp at h1 h2; subst h1 h2; exact .val _
    · simp at h1 h2; subst h1 h2; exact .val _
    · simp at h1
  · simp at h1 h2; subst h1 h2; exact .val _
  · simp at h1
theorem Q_tassert {U : TypeId} {m n : Int} (hx : st.ev x = .val (.iface U (.agg #[.int .i64 m, .int .i64 n]))) (ht : ∀ w : World, (Instr.typeAssert (.iface U (.agg #[.int .i64 m, .int .i64 n])) T T' true).run P w = .ok (.tuple #[.agg #[.int .i64 m, .int .i64 n], .bool true]) w) :
    QOp P ⟨d, .typeAssert x T T' true, ty, pos, af, g⟩ st (.tup [.agg [.val (.int .i64 m), .val (.int .i64 n)], .val (.bool true)]) :=
  .run fun _ _ a hr => ⟨.tuple #[.agg #[.int .i64 m, .int .i64 n], .bool true], gm_tassert, fun w1 _ => by
    simp only [execOp, hr.evv hx, Sem.run_bind, ht, Result.andThen_ok, Sem.run_pure]⟩
end
theorem read_idle : CatchI Tryd.prog 57 := by
  refine ⟨⟨_, Tryd.func57, by kernel_rfl, by kernel_rfl⟩, fun p0 p1 w => ?_⟩
  refine callsD_of_wpS Tryd.func57 rfl fun c₀ cs hu => ?_
  apply wpS_seq
  apply wpS_region
  simp [wpOpsS, go_sem, recoverD, hu, Tryd.ntmps57, Exit.thenS]
  apply wpS_seq
  apply wpS_region
  simp [wpOpsS, go_sem, Exit.thenS]
  refine wpS_cond (t := false) (by simp [Act.eval, Array.replicate]) ?_
  simp only [Bool.false_eq_true, if_false]
  refine wpS_of_wp (wp_skip ?_)
  cases c₀
  simp_all [bodyPostS, results, Tryd.results57]
abbrev zc1 : List AV := [.val (.int .i64 0), .val (.slice none 0 0)]
abbrev zc2 : List AV := [.val (.int .i64 0), .val (.int .i64 0)]
/-- Behind recover the closure lays the fault. -/
def catchA (m n : Int) : Exit → St → Prop
  | .normal, st => st.le ⟨16, [], [.box zc1, .box [.val (.int .i64 m), .val (.int .i64 n)]]⟩ [0, 1]
  | _, _ => False
theorem read_catch (m n : Int) : CatchP Tryd.prog 57 zc1 zc2 (flt m n) zc1 [.val (.int .i64 m), .val (.int .i64 n)] := by
  refine ⟨⟨_, Tryd.func57, by kernel_rfl, by kernel_rfl⟩, ?_⟩
  intro zs ρ w p0 p1 hg g0 g1
  refine callsD_of_wpS Tryd.func57 rfl fun c₀ cs hu => ?_
  apply wpS_seq
  apply wpS_region
  simp [wpOpsS, go_sem, recoverD, hu, Tryd.ntmps57, Exit.thenS, pan]
  refine wpS_of_wp ?_
  have hrel : Rel (⟨w, Own ρ [.box zc1, .box zc2], ρ, hg.len⟩ : Cx [AO.box zc1, AO.box zc2].length) ⟨16, [(2, .val (flt m n)), (0, .ptr 0 0), (1, .ptr 1 0)], [.box zc1, .box zc2]⟩ { tmps := #[p0, p1] ++ ((Array.replicate 14 undef).setIfInBounds 2 (flt m n)).setIfInBounds 0 (flt m n), defers := [] } w := by
    refine ⟨⟨ρ, ⟨fun t => ?_, by simp, rfl, hg⟩, fun id b hfo _ => ⟨id, hfo⟩, fun _ _ h => h⟩, Same.refl _ _⟩
    show Gm ρ w _ (getv _ t) _
    rw [getv_cons, getv_cons, getv_cons]
    by_cases h2 : 2 = t
    · subst h2
      have e : (#[p0, p1] ++ ((Array.replicate 14 undef).setIfInBounds 2 (flt m n)).setIfInBounds 0 (flt m n)).getD 2 undef = flt m n := by simp
      rw [if_pos rfl]; show Gm _ _ _ _ ((#[p0, p1] ++ ((Array.replicate 14 undef).setIfInBounds 2 (flt m n)).setIfInBounds 0 (flt m n)).getD 2 undef); rw [e]; exact .val _
    · rw [if_neg h2]
      by_cases h0 : 0 = t
      · subst h0
        have e : (#[p0, p1] ++ ((Array.replicate 14 undef).setIfInBounds 2 (flt m n)).setIfInBounds 0 (flt m n)).getD 0 undef = p0 := by simp
        rw [if_pos rfl]; show Gm _ _ _ _ ((#[p0, p1] ++ ((Array.replicate 14 undef).setIfInBounds 2 (flt m n)).setIfInBounds 0 (flt m n)).getD 0 undef); rw [e]; exact g0
      · rw [if_neg h0]
        by_cases h1 : 1 = t
        · subst h1
          have e : (#[p0, p1] ++ ((Array.replicate 14 undef).setIfInBounds 2 (flt m n)).setIfInBounds 0 (flt m n)).getD 1 undef = p1 := by simp
          rw [if_pos rfl]; show Gm _ _ _ _ ((#[p0, p1] ++ ((Array.replicate 14 undef).setIfInBounds 2 (flt m n)).setIfInBounds 0 (flt m n)).getD 1 undef); rw [e]; exact g1
        · rw [if_neg h1]; exact .any _
  have walk : ∀ c : Code, (∀ [Zs] (cx : Cx [AO.box zc1, AO.box zc2].length), aC Tryd.prog cx c (catchA m n) ⟨16, [(2, .val (flt m n)), (0, .ptr 0 0), (1, .ptr 1 0)], [.box zc1, .box zc2]⟩) → c.wp Tryd.prog (fun e a' w' => ∃ v, e = .normal ∧ a'.defers = [] ∧ ∃ ρ', Same (Own ρ [.box zc1, .box zc2]) w w' ∧ Good ρ' w' [.box zc1, .box [.val (.int .i64 m), .val (.int .i64 n)]] ∧ (∀ (id : Nat) l, ρ[id]? = some l → ρ'[id]? = some l) ∧ (∀ b, Own ρ' [.box zc1, .box [.val (.int .i64 m), .val (.int .i64 n)]] b → b < w.heap.size → Own ρ [.box zc1, .box zc2] b) ∧ v = ()) { tmps := #[p0, p1] ++ ((Array.replicate 14 undef).setIfInBounds 2 (flt m n)).setIfInBounds 0 (flt m n), defers := [] } w := fun c hc => by
    have hc1 := hc (⟨w, Own ρ [.box zc1, .box zc2], ρ, hg.len⟩ : Cx [AO.box zc1, AO.box zc2].length)
    unfold aC at hc1
    refine wp_mono (hc1 _ _ hrel) ?_
    rintro e a' w' ⟨st, q, r⟩
    cases e with
    | normal =>
      obtain ⟨⟨ρ', hb', hf', h0'⟩, hs'⟩ := r.le q rfl
      exact ⟨(), rfl, hb'.defers, ρ', hs', hb'.good, h0', fun b ⟨id, h⟩ hlt => hf' id b h hlt, rfl⟩
    | _ => exact q.elim
  refine wp_mono (walk _ fun cx => ?_) ?_
  · skip
    have ht1 : ∀ w : World, (binOp .neq 20 (flt m n) .nilIface).run Tryd.prog w = .ok (.bool true) w := fun w => by unfold flt; simp [go_sem]
    have ht2 : ∀ (x y : Operand) (w : World), (eqGuard .neq 20 x y (flt m n) .nilIface).run Tryd.prog w = .ok () w := fun x y w => by unfold flt; simp [go_sem, eqGuard]
    have ht3 : ∀ w : World, (Instr.typeAssert (flt m n) 20 33 true).run Tryd.prog w = .ok (.tuple #[.agg #[.int .i64 m, .int .i64 n], .bool true]) w := fun w => by unfold flt; simp [go_sem, Instr.typeAssert]
    generalize hF : flt m n = F at *
    (repeat' (first | refine a_seq ?_ | refine a_block ?_ | refine a_skip ?_ | refine a_ret ?_ | refine a_exit ?_ | refine a_region ?_ | refine l_nil ?_ | (apply w_q; (focus (first | exact Q_move (by conv => lhs; whnf) | exact Q_assign (by conv => lhs; whnf) | exact Q_neq rfl rfl | exact Q_neqB rfl rfl KBo.h | exact Q_build0 KBd.h (by simp only [List.map_cons, List.map_nil, List.take_succ_cons, List.take_zero, List.drop_succ_cons, List.drop_zero, List.drop_nil, List.nil_append, List.cons_append, List.append_nil, List.length_cons, List.length_nil, Nat.reduceAdd, Nat.reduceMul]; exact rfl) | exact Q_build1 KBd.h (by conv => lhs; whnf) (by conv => lhs; whnf) rfl rfl rfl (by simp only [List.map_cons, List.map_nil, List.take_succ_cons, List.take_zero, List.drop_succ_cons, List.drop_zero, List.drop_nil, List.nil_append, List.cons_append, List.append_nil, List.length_cons, List.length_nil, Nat.reduceAdd, Nat.reduceMul]; exact rfl) | exact Q_build2 KBd.h (by conv => lhs; whnf) (by conv => lhs; whnf) rfl rfl rfl (by simp only [List.map_cons, List.map_nil, List.take_succ_cons, List.take_zero, List.drop_succ_cons, List.drop_zero, List.drop_nil, List.nil_append, List.cons_append, List.append_nil, List.length_cons, List.length_nil, Nat.reduceAdd, Nat.reduceMul]; exact rfl) (by conv => lhs; whnf) (by conv => lhs; whnf) rfl rfl rfl (by simp only [List.map_cons, List.map_nil, List.take_succ_cons, List.take_zero, List.drop_succ_cons, List.drop_zero, List.drop_nil, List.nil_append, List.cons_append, List.append_nil, List.length_cons, List.length_nil, Nat.reduceAdd, Nat.reduceMul]; exact rfl) | exact Q_build3 KBd.h (by conv => lhs; whnf) (by conv => lhs; whnf) rfl rfl rfl (by simp only [List.map_cons, List.map_nil, List.take_succ_cons, List.take_zero, List.drop_succ_cons, List.drop_zero, List.drop_nil, List.nil_append, List.cons_append, List.append_nil, List.length_cons, List.length_nil, Nat.reduceAdd, Nat.reduceMul]; exact rfl) (by conv => lhs; whnf) (by conv => lhs; whnf) rfl rfl rfl (by simp only [List.map_cons, List.map_nil, List.take_succ_cons, List.take_zero, List.drop_succ_cons, List.drop_zero, List.drop_nil, List.nil_append, List.cons_append, List.append_nil, List.length_cons, List.length_nil, Nat.reduceAdd, Nat.reduceMul]; exact rfl) (by conv => lhs; whnf) (by conv => lhs; whnf) rfl rfl rfl (by simp only [List.map_cons, List.map_nil, List.take_succ_cons, List.take_zero, List.drop_succ_cons, List.drop_zero, List.drop_nil, List.nil_append, List.cons_append, List.append_nil, List.length_cons, List.length_nil, Nat.reduceAdd, Nat.reduceMul]; exact rfl) | exact Q_neqP rfl rfl inferInstance | exact Q_extract rfl (by conv => lhs; whnf) | exact Q_extract_v rfl (by conv => lhs; whnf) | exact Q_not rfl)); (focus exact rfl)) | (refine a_cond rfl ?_ ?_ <;> (intro h; (try (have hp := of_decide_eq_true h)); (try (have hp := of_decide_eq_false h)); (try contradiction); (try (exfalso; omega)))) | refine w_store rfl rfl rfl (by conv => lhs; whnf) rfl KSz.h (by first|(dsimp only[obA,obB,obD,obE,obF,obG,obI,List.map,AO.sh,AV.sh,AV.shl,Nat.reduceAdd];done)|exact rfl) (by first|(dsimp only[obA,obB,obD,obE,obF,obG,obI,List.map,AO.sh,AV.sh,AV.shl,Nat.reduceAdd];done)|exact rfl) ?_ | refine w_store_all rfl rfl rfl rfl rfl KSz.h (by first|(dsimp only[obA,obB,obD,obE,obF,obG,obI,List.map,AO.sh,AV.sh,AV.shl,Nat.reduceAdd];done)|exact rfl) ?_ | refine w_st_nats rfl rfl rfl KSz.h (by omega) (by first|(dsimp only[obA,obB,obD,obE,obF,obG,obI,List.map,AO.sh,AV.sh,AV.shl,Nat.reduceAdd];done)|exact rfl) ?_ | refine w_st_ints rfl rfl rfl KSz.h (by omega) (by first|(dsimp only[obA,obB,obD,obE,obF,obG,obI,List.map,AO.sh,AV.sh,AV.shl,Nat.reduceAdd];done)|exact rfl) ?_ | refine w_st_bools rfl rfl rfl KSz.h (by omega) (by first|(dsimp only[obA,obB,obD,obE,obF,obG,obI,List.map,AO.sh,AV.sh,AV.shl,Nat.reduceAdd];done)|exact rfl) ?_ | (((first | apply w_q | apply w_qq); (focus exact Q_neqif (U := 33) (v := .agg #[.int .i64 m, .int .i64 n]) (by rw [← hF]; rfl) rfl (fun w => by have := ht1 w; rw [← hF] at this; exact this) (fun x y w => by have := ht2 x y w; rw [← hF] at this; exact this)); (focus exact rfl))) | (((first | apply w_q | apply w_qq); (focus exact Q_tassert (m := m) (n := n) (U := 33) (by rw [← hF]; rfl) (fun w => by have := ht3 w; rw [← hF] at this; exact this)); (focus exact rfl))))); (try all_goals (try show retA _ _ _ _ _ _ _))
    all_goals first
      | (exfalso; simp at *; done)
      | (show St.le _ _ _; (refine St.le_mk rfl (VwOs.mk (by decide) ?_) ?_ <;> (repeat' (first | exact trivial | exact vwR rfl | exact Vw.val _ | exact Vw.ro _ | exact Vw.any _ | exact Vw.own _ _ rfl | exact Vw.ptr _ _ _ rfl | exact Vw.rpt _ _ | exact Vw.valro _ | exact Vw.nilro _ | exact Vw.rowro _ _ _ _ rfl (by decide) | (refine Vw.int' ?_; first | rfl | omega | (simp; done)) | (refine Vw.bool' ?_; first | rfl | (simp; done)) | refine Vw.agg' ?_ | refine Vw.tup' ?_ | refine Vw.clo' ?_ | exact VwO.row _ _ _ | exact VwO.bld _ _ _ | refine VwO.box' ?_ | exact VwO.gone _ | exact VwO.mp _ | exact VwO.mat _ _ _ | refine ⟨⟨_, rfl, ?_⟩, ?_⟩ | refine ⟨?_, ?_⟩ ))))
      | (all_goals trace_state); fail
  · rintro e a' w' ⟨-, rfl, hd, ρ', h1, h2, h3, h4, -⟩
    refine ⟨hd, .panicking [{ v := flt m n, recovered := true }], rfl, .tuple #[], by simp [results, Tryd.results57], ⟨_, rfl⟩, rfl, h1, ρ', h2, h3, h4⟩
end Go.Proofs.YtpfldhaaiglgdaaDoor
