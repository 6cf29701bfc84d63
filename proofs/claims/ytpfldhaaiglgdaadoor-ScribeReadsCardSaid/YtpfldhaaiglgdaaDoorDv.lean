import Derived.Test.YtpfldhaaiglgdaaDoorScl
import Derived.Test.YtpfldhaaiglgdaaDoorSci
import Derived.Test.YtpfldhaaiglgdaaDoorDta
import Derived.Test.YtpfldhaaiglgdaaDoorGb
import Derived.Test.YtpfldhaaiglgdaaDoorEngT
import Derived.Test.YtpfldhaaiglgdaaDoorIm
import Derived.Laws.StructEq
set_option linter.unusedSimpArgs false
set_option linter.unusedVariables false
set_option linter.unusedSectionVars false
set_option maxRecDepth 20000
namespace Go.Proofs.YtpfldhaaiglgdaaDoor
open Go.ChangeShapes Go.WideShapes Go.ChangeAt Go.RowKit
attribute [local irreducible] QOp aL aC qL
/-- Structs of two numbers: what is asked of their type. -/
def KEqF (P : Program) (T : TypeId) : Prop := P.underlying T = some (.struct (P.fieldsOf T)) ∧ P.stoodInHeld T = false ∧ P.eqGuardType P.depth T = false ∧
  ∃ f0 f1 : Field, (P.fieldsOf T).toList = [f0, f1] ∧ f0.name ≠ "_" ∧ f1.name ≠ "_" ∧ f0.offset = 0 ∧ f1.offset = 1 ∧ P.underlying f0.type = some (.int .i64) ∧ P.underlying f1.type = some (.int .i64)
theorem run_equal_fault (P : Program) (w : World) (T : TypeId) (hT : KEqF P T) (a b a' b' : Int) :
    (Op.equal T (.agg #[.int .i64 a, .int .i64 b]) (.agg #[.int .i64 a', .int .i64 b'])).run P w = .ok (decide (a = a' ∧ b = b')) w := by
  obtain ⟨h1, h2, _, f0, f1, h3, n0, n1, o0, o1, u0, u1⟩ := hT
  show (Op.equalIn (9999 + 1) T _ _).run P w = _
  rw [run_equalIn_struct w 9999 T _ _ h1 h2, h3]
  have e0 : ∀ (x y : Int), (#[Value.int .i64 x, .int .i64 y] : Array Value)[0]? = some (.int .i64 x) := fun _ _ => rfl
  have e1 : ∀ (x y : Int), (#[Value.int .i64 x, .int .i64 y] : Array Value)[1]? = some (.int .i64 y) := fun _ _ => rfl
  have p0 : ∀ (x y : Int) (w : World), (part f0.type #[.int .i64 x, .int .i64 y] 0).run P w = .ok (.int .i64 x) w := fun x y w => run_part_sc u0 (e0 x y)
  have p1 : ∀ (x y : Int) (w : World), (part f1.type #[.int .i64 x, .int .i64 y] 1).run P w = .ok (.int .i64 y) w := fun x y w => run_part_sc u1 (e1 x y)
  have q0 : ∀ (x y : Int) (w : World), (Op.equalIn 9999 f0.type (.int .i64 x) (.int .i64 y)).run P w = .ok (decide (x = y)) w := fun x y w => run_equal_int P w 9998 f0.type u0 x y
  have q1 : ∀ (x y : Int) (w : World), (Op.equalIn 9999 f1.type (.int .i64 x) (.int .i64 y)).run P w = .ok (decide (x = y)) w := fun x y w => run_equal_int P w 9998 f1.type u1 x y
  simp only [Op.eqFields, ne_eq, n0, n1, not_false_eq_true, if_true, o0, o1, Sem.run_bind, p0, q0, Result.andThen_ok]
  by_cases ha : a = a'
  · subst ha
    by_cases hb : b = b'
    · subst hb
      simp only [decide_true, Bool.not_true, Bool.false_eq_true, if_false, Sem.run_bind, p1, q1, Result.andThen_ok, Sem.run_pure, and_self]
    · simp only [decide_true, Bool.not_true, Bool.false_eq_true, if_false, Sem.run_bind, p1, q1, Result.andThen_ok, Sem.run_pure, hb, decide_false, Bool.not_false, if_true, and_false]
  · simp only [ha, decide_false, Bool.not_false, if_true, Sem.run_pure, false_and]
theorem Q_eqlF {P : Program} {st : St} {d : Option Tmp} {ty : TypeId} {pos : String} {af : Array Edge} {g : Option (Nat × Bool)} {T T' : TypeId} {x y : Operand} {a b a' b' : Int} (hx : st.ev x = .agg [.val (.int .i64 a), .val (.int .i64 b)]) (hy : st.ev y = .agg [.val (.int .i64 a'), .val (.int .i64 b')]) (hT : KEqF P T) :
    QOp P ⟨d, .binOp .eql T x y T', ty, pos, af, g⟩ st (.val (.bool (decide (a = a' ∧ b = b')))) := by
  refine .run fun ρ w a hr => ⟨_, .val _, fun w1 _ => ?_⟩
  have gx := hr.ev x
  have gy := hr.ev y
  rw [hx] at gx
  rw [hy] at gy
  have hg := hT.2.2.1
  simp only [execOp, pair_val gx, pair_val gy, Sem.run_bind, Go.Proofs.YtpfldhaaiglgdaaDoor.run_eqGuard_agg _ _ _ _ _ _ hg, Result.andThen_ok, binOp, run_equal_fault P w1 T hT, Sem.run_pure]
theorem faultEq : KEqF Tryd.prog 33 := by
  have h := Tryd.underlying33
  refine ⟨?_, by kernel_rfl, by kernel_rfl, ?_⟩
  · unfold Program.fieldsOf
    rw [h]
  · unfold Program.fieldsOf
    rw [h]
    exact ⟨_, _, rfl, by decide, by decide, rfl, rfl, Tryd.underlying25, Tryd.underlying3⟩
theorem numR_ne {s : ByteArray} {p q : Nat} {most er c : Int} (he : er ≠ 0) (h : numR s p most er = .inl (c, q)) : c ≠ 0 := by
  unfold numR at h
  split at h
  · cases h; decide
  · split at h
    · cases h; decide
    · split at h
      · cases h; exact he
      · cases h
theorem prR_ne {s : ByteArray} {n : Nat} : ∀ {f p : Nat} {L : List (Nat × Nat)} {c : Int} {q : Nat}, prR s n f p L = .inl (c, q) → c ≠ 0
  | 0, p, L, c, q, h => by cases h
  | f + 1, p, L, c, q, h => by
    unfold prR at h
    split at h
    · split at h
      · split at h
        · rename_i hn; cases h; exact numR_ne (by decide) hn
        · split at h
          · split at h
            · rename_i hn; cases h; exact numR_ne (by decide) hn
            · exact prR_ne h
          · cases h; decide
      · cases h; decide
    · cases h
theorem rdR_ne {s : ByteArray} {c : Int} {q : Nat} (h : rdR s = .inl (c, q)) : c ≠ 0 := by
  unfold rdR at h
  split at h
  · cases h; decide
  · split at h
    · rename_i hn; cases h; exact numR_ne (by decide) hn
    · split at h
      · split at h
        · rename_i hn; cases h; exact prR_ne hn
        · cases h
      · cases h; decide
theorem mk_lt {n : Nat} {L : List (Nat × Nat)} (he : mkE n (pn L) = 0) : ∀ p ∈ L, p.1 < n ∧ p.2 < n := by
  have : (pn L).all (okP (n : Int)) = true := by
    unfold mkE at he
    split at he
    · cases he
    · split at he
      · cases he
      · rename_i h; cases hq : (pn L).all (okP (n : Int))
        · exact absurd hq h
        · rfl
  have := okP_lt this
  rwa [toN_pnZ] at this
set_option maxRecDepth 20000 in
set_option maxHeartbeats 2000000 in
theorem ScribeReads_ac (s : ByteArray) : AC Tryd.prog 4 [.val (.string s)] [] (.val (.bool true)) [] := by
  have kb := sbbegun_ac
  rcases hr : rdR s with ⟨c, q⟩ | ⟨n, L⟩
  · have k1 := Read_bad s c q hr
    have k2 := ROrder_bad s c q hr (rdR_ne hr)
    have k3 := SameOrder_ac 0 0 [] [] (by decide)
    refine AC.mk (n := 28) (fn := Tryd.f4) Tryd.func4 (by kernel_rfl) rfl rfl rfl rfl (fun cx => ?_); dsimp only [argv, Nat.reduceAdd]
    (repeat' (first | refine a_seq ?_ | refine a_ret ?_ | refine a_region ?_ | refine l_nil ?_ | (apply w_q; (focus (first | exact Q_move (by conv => lhs; whnf) | exact Q_assign (by conv => lhs; whnf) | exact Q_load_all rfl rfl KAg.h | exact Q_extract rfl (by conv => lhs; whnf) | exact Q_pick_t rfl (by assumption) (by conv => lhs; whnf) | exact Q_pick_t rfl rfl (by conv => lhs; whnf))); (focus exact rfl)) | refine w_guard_y rfl rfl rfl (by first | assumption | rfl) ?_ | (refine w_guard rfl rfl rfl ?_ ?_ <;> (intro h; (try (have hp := of_decide_eq_true h)); (try (have hp := of_decide_eq_false h)); (try contradiction); (try (exfalso; omega)))) | refine w_alloc KMk.h (by first|(dsimp only[obA,obB,obD,obE,obF,obG,obI,List.map,AO.sh,AV.sh,AV.shl,Nat.reduceAdd];done)|exact rfl) rfl (by first|(dsimp only[obA,obB,obD,obE,obF,obG,obI,List.map,AO.sh,AV.sh,AV.shl,Nat.reduceAdd];done)|exact rfl) (by first|(dsimp only[obA,obB,obD,obE,obF,obG,obI,List.map,AO.sh,AV.sh,AV.shl,Nat.reduceAdd];done)|exact rfl) rfl ?_ | refine w_store_all rfl rfl rfl rfl rfl KSz.h (by first|(dsimp only[obA,obB,obD,obE,obF,obG,obI,List.map,AO.sh,AV.sh,AV.shl,Nat.reduceAdd];done)|exact rfl) ?_ | ((refine w_callV (.inl ⟨rfl, rfl⟩) (k1) ?_ (by first | (dsimp only [AV.sh, AV.shl, sh_ints, sh_rows, sh_pairs, sh_ords]; done) | exact rfl) rfl ?_; rotate_left 0; (focus ((repeat' (first | exact trivial | exact Vs.val _ | refine ⟨?_, ?_⟩)); done)); rotate_left 1; all_goals (try (skip)))) | ((refine w_callV (.inl ⟨rfl, rfl⟩) (k2) ?_ (by first | (dsimp only [AV.sh, AV.shl, sh_ints, sh_rows, sh_pairs, sh_ords]; done) | exact rfl) rfl ?_; rotate_left 0; (focus ((repeat' (first | exact trivial | exact Vs.val _ | refine ⟨?_, ?_⟩)); done)); rotate_left 1; all_goals (try (skip)))) | (((first | apply w_q); (focus (refine Q_call (.inl ⟨rfl, rfl⟩) (kb) ?_; ((repeat' (first | exact trivial)); done))); (focus exact rfl))) | (((first | apply w_q); (focus (refine Q_call (.inl ⟨rfl, rfl⟩) (k3) ?_; ((repeat' (first | exact trivial | exact vwR rfl | exact Vw.nilro _ | refine Vw.agg' ?_ | refine ⟨?_, ?_⟩ )); done))); (focus exact rfl))) | (((first | apply w_q); (focus exact Q_eqlF rfl rfl faultEq); (focus exact rfl))))); (try all_goals (try show retA _ _ _ _ _ _ _))
    all_goals first
      | (refine ⟨[_], [], ⟨resV_tmp (by conv => lhs; whnf), trivial⟩, VwOs.mk (by decide) trivial, ?_, rfl⟩; exact Vw.bool' (by simp))
      | (all_goals trace_state); fail
  · by_cases he : mkE n (pn L) = 0
    · have hall : ∀ p ∈ L, p.1 < n ∧ p.2 < n := mk_lt he
      have hlen := (clos_vld hall).1
      have k1 : AC Tryd.prog 15 [.val (.string s)] [] (.tup [ordv (n : Nat) (nl (clos n L)), .agg [.val (.int .i64 0), .val (.int .i64 0)]]) [] := AC.vw0 (Read_ok s n L hr he) (by (repeat' (first | exact trivial | exact vwR rfl | exact vwRL rfl | exact Vw.rowro _ _ _ _ rfl (by decide) | refine Vw.agg' ?_ | refine Vw.tup' ?_ | refine ⟨?_, ?_⟩ )))
      have k2 : AC Tryd.prog 16 [.val (.string s)] [] (.tup [ordv (n : Nat) (nl (clos n L)), .agg [.val (.int .i64 0), .val (.int .i64 0)]]) [] := AC.vw0 (ROrder_ok s n L hr he) (by (repeat' (first | exact trivial | exact vwR rfl | exact vwRL rfl | exact Vw.rowro _ _ _ _ rfl (by decide) | refine Vw.agg' ?_ | refine Vw.tup' ?_ | refine ⟨?_, ?_⟩ )))
      have hn : (n : Int) ≤ 10 := by
        unfold mkE at he
        split at he
        · cases he
        · omega
      have k3 := SameOrder_ac n n (nl (clos n L)) (nl (clos n L)) (by simp [nl, hlen]; omega)
      generalize clos n L = C at *
      refine AC.mk (n := 28) (fn := Tryd.f4) Tryd.func4 (by kernel_rfl) rfl rfl rfl rfl (fun cx => ?_); dsimp only [argv, Nat.reduceAdd]
      (repeat' (first | refine a_seq ?_ | refine a_ret ?_ | refine a_region ?_ | refine l_nil ?_ | (apply w_q; (focus (first | exact Q_move (by conv => lhs; whnf) | exact Q_assign (by conv => lhs; whnf) | exact Q_load_all rfl rfl KAg.h | exact Q_extract rfl (by conv => lhs; whnf) | exact Q_pick_t rfl rfl (by conv => lhs; whnf))); (focus exact rfl)) | refine w_guard_y rfl rfl rfl (by first | assumption | rfl) ?_ | refine w_alloc KMk.h (by first|(dsimp only[obA,obB,obD,obE,obF,obG,obI,List.map,AO.sh,AV.sh,AV.shl,Nat.reduceAdd];done)|exact rfl) rfl (by first|(dsimp only[obA,obB,obD,obE,obF,obG,obI,List.map,AO.sh,AV.sh,AV.shl,Nat.reduceAdd];done)|exact rfl) (by first|(dsimp only[obA,obB,obD,obE,obF,obG,obI,List.map,AO.sh,AV.sh,AV.shl,Nat.reduceAdd];done)|exact rfl) rfl ?_ | refine w_store_all rfl rfl rfl rfl rfl KSz.h (by first|(dsimp only[obA,obB,obD,obE,obF,obG,obI,List.map,AO.sh,AV.sh,AV.shl,Nat.reduceAdd];done)|exact rfl) ?_ | ((refine w_callV (.inl ⟨rfl, rfl⟩) (k1) ?_ (by first | (dsimp only [AV.sh, AV.shl, sh_ints, sh_rows, sh_pairs, sh_ords]; done) | exact rfl) rfl ?_; rotate_left 0; (focus ((repeat' (first | exact trivial | exact Vs.val _ | refine ⟨?_, ?_⟩)); done)); rotate_left 1; all_goals (try (skip)))) | ((refine w_callV (.inl ⟨rfl, rfl⟩) (k2) ?_ (by first | (dsimp only [AV.sh, AV.shl, sh_ints, sh_rows, sh_pairs, sh_ords]; done) | exact rfl) rfl ?_; rotate_left 0; (focus ((repeat' (first | exact trivial | exact Vs.val _ | refine ⟨?_, ?_⟩)); done)); rotate_left 1; all_goals (try (skip)))) | (((first | apply w_q); (focus (refine Q_call (.inl ⟨rfl, rfl⟩) (kb) ?_; ((repeat' (first | exact trivial)); done))); (focus exact rfl))) | (((first | apply w_q); (focus (refine Q_call (.inl ⟨rfl, rfl⟩) (k3) ?_; ((repeat' (first | exact trivial | exact vwR rfl | exact Vw.ro _ | refine Vw.agg' ?_ | refine ⟨?_, ?_⟩ )); done))); (focus exact rfl))) | (((first | apply w_q); (focus exact Q_eqlF rfl rfl faultEq); (focus exact rfl))))); (try all_goals (try show retA _ _ _ _ _ _ _))
      all_goals first
        | (refine ⟨[_], [], ⟨resV_tmp (by conv => lhs; whnf), trivial⟩, VwOs.mk (by decide) trivial, ?_, rfl⟩; exact Vw.bool' (by simp))
        | (all_goals trace_state); fail
    · have k1 := Read_mk s n L _ hr rfl he
      have k2 := ROrder_mk s n L _ hr rfl he
      have k3 := SameOrder_ac 0 0 [] [] (by decide)
      generalize mkE n (pn L) = e at *
      refine AC.mk (n := 28) (fn := Tryd.f4) Tryd.func4 (by kernel_rfl) rfl rfl rfl rfl (fun cx => ?_); dsimp only [argv, Nat.reduceAdd]
      (repeat' (first | refine a_seq ?_ | refine a_ret ?_ | refine a_region ?_ | refine l_nil ?_ | (apply w_q; (focus (first | exact Q_move (by conv => lhs; whnf) | exact Q_assign (by conv => lhs; whnf) | exact Q_load_all rfl rfl KAg.h | exact Q_extract rfl (by conv => lhs; whnf) | exact Q_pick_t rfl (by assumption) (by conv => lhs; whnf) | exact Q_pick_t rfl rfl (by conv => lhs; whnf))); (focus exact rfl)) | refine w_guard_y rfl rfl rfl (by first | assumption | rfl) ?_ | (refine w_guard rfl rfl rfl ?_ ?_ <;> (intro h; (try (have hp := of_decide_eq_true h)); (try (have hp := of_decide_eq_false h)); (try contradiction); (try (exfalso; omega)))) | refine w_alloc KMk.h (by first|(dsimp only[obA,obB,obD,obE,obF,obG,obI,List.map,AO.sh,AV.sh,AV.shl,Nat.reduceAdd];done)|exact rfl) rfl (by first|(dsimp only[obA,obB,obD,obE,obF,obG,obI,List.map,AO.sh,AV.sh,AV.shl,Nat.reduceAdd];done)|exact rfl) (by first|(dsimp only[obA,obB,obD,obE,obF,obG,obI,List.map,AO.sh,AV.sh,AV.shl,Nat.reduceAdd];done)|exact rfl) rfl ?_ | refine w_store_all rfl rfl rfl rfl rfl KSz.h (by first|(dsimp only[obA,obB,obD,obE,obF,obG,obI,List.map,AO.sh,AV.sh,AV.shl,Nat.reduceAdd];done)|exact rfl) ?_ | ((refine w_callV (.inl ⟨rfl, rfl⟩) (k1) ?_ (by first | (dsimp only [AV.sh, AV.shl, sh_ints, sh_rows, sh_pairs, sh_ords]; done) | exact rfl) rfl ?_; rotate_left 0; (focus ((repeat' (first | exact trivial | exact Vs.val _ | refine ⟨?_, ?_⟩)); done)); rotate_left 1; all_goals (try (skip)))) | ((refine w_callV (.inl ⟨rfl, rfl⟩) (k2) ?_ (by first | (dsimp only [AV.sh, AV.shl, sh_ints, sh_rows, sh_pairs, sh_ords]; done) | exact rfl) rfl ?_; rotate_left 0; (focus ((repeat' (first | exact trivial | exact Vs.val _ | refine ⟨?_, ?_⟩)); done)); rotate_left 1; all_goals (try (skip)))) | (((first | apply w_q); (focus (refine Q_call (.inl ⟨rfl, rfl⟩) (kb) ?_; ((repeat' (first | exact trivial)); done))); (focus exact rfl))) | (((first | apply w_q); (focus (refine Q_call (.inl ⟨rfl, rfl⟩) (k3) ?_; ((repeat' (first | exact trivial | exact vwR rfl | exact Vw.nilro _ | refine Vw.agg' ?_ | refine ⟨?_, ?_⟩ )); done))); (focus exact rfl))) | (((first | apply w_q); (focus exact Q_eqlF rfl rfl faultEq); (focus exact rfl))))); (try all_goals (try show retA _ _ _ _ _ _ _))
      all_goals first
        | (refine ⟨[_], [], ⟨resV_tmp (by conv => lhs; whnf), trivial⟩, VwOs.mk (by decide) trivial, ?_, rfl⟩; exact Vw.bool' (by simp))
        | (all_goals trace_state); fail
theorem ScribeReads_knob : ownKnob Tryd.prog.godebug = none := by kernel_rfl
theorem ScribeReads_laid : laidOutB Tryd.prog = true := by kernel_rfl
theorem door_met (os : Os) (args : Array Value) : laidMetH Tryd.prog tabL3 ((World.doorLaid Tryd.prog 24 os).forCall (fun _ _ => 0) ⟨#[], args, []⟩).memory :=
  laidMetH_of_parts3 (fuel := 8) (laidMet_of_run' 8 (by kernel_rfl) (by kernel_rfl)) (by kernel_rfl) (by kernel_rfl)
set_option maxRecDepth 100000 in
theorem ScribeReads_lifted (os : Os) (started : os.Started) (H : Type) (enc : TypeId × Value → H) :
    ReturnsInHanded {} Tryd.checked os 4 .any (fun w args => (Rows.scribeReadsSpec.pre enc Tryd.prog Tryd.f4 Rows.scribeReadsRow.domain false w args ∧ laidMetH Tryd.prog tabL3 w) ∧ sizedMet enc Tryd.prog Tryd.f4 (OpenSpec.ofChange Rows.scribeReadsSpec) false w args) (Rows.scribeReadsSpec.post enc Tryd.prog Tryd.f4 false true false false) := by
  refine law_frameT (C := Tryd.checked) (laid := tabL3) ScribeReads_knob started (by kernel_rfl) Tryd.func4
    (ChangeSpec.witness_shaped (enc := enc) (C := Tryd.checked) (os := os) (X := fun w _ => laidMetH Tryd.prog tabL3 w) false (World.doorLaid Tryd.prog 24 os) #[.string ⟨#[]⟩] 8 rfl (World.shaped_of_RefB (by kernel_rfl) (by kernel_rfl)) (by kernel_rfl) (by kernel_rfl) (by kernel_rfl) (door_met os _))
    ScribeReads_laid rfl Tryd.underlying4 (by kernel_rfl) rfl ?_ tab_laid3 ?_
  · intro ds h
    match ds, h with
    | [d0], _ => rfl
  · intro W base args ds p hval hA
    obtain ⟨v0, d0, rfl, rfl, h0⟩ := trodAll_one hA
    obtain ⟨s0, rfl⟩ := okWide_string Tryd.underlying9 (hval 0 _ _ rfl rfl)
    exact ⟨[_], ⟨Gm.val _, trivial⟩, ScribeReads_ac s0 ⟩
theorem ScribeReads_row : Rows.ScribeReadsSaid :=
  OpenClaim.holds_of_wide 4 Tryd.f4 rfl rfl rfl rfl rfl rfl rfl ⟨rfl, rfl, rfl, rfl, rfl⟩ rfl rfl rfl rfl rfl (by kernel_rfl) Tryd.func4 (by kernel_rfl)
    (of_decide_eq_true (by kernel_rfl)) (by unfold Func.isWrapper; first | (rw [if_pos (by decide +kernel)]; kernel_rfl) | (rw [if_neg (by decide +kernel)]; exact ⟨rfl, rfl⟩))
    (fun os started H enc _ => ScribeReads_lifted os started H enc)
theorem ScribeReads_holds : Rows.ScribeReadsCardSaid :=
  Claim7.holds_tied_plain_at .later [] [.data, .data, .data] true (true, "2c705763b973a71d264b32eb6eb269e206b8917bcd493266fd903aa793d15a76") true
    ScribeReads_row (fun _ h => by cases h) (by kernel_rfl) (fun _ h => by cases h) scribeReads_row_tie rfl ⟨rfl, rfl⟩ (by kernel_rfl) rfl
    (fun f fn hf hfn => by
      obtain rfl : f = 4 := Option.some.inj ((show Tryd.prog.funcNamed "hasse/hasselaw.ScribeReads" = some 4 by kernel_rfl).symm.trans hf) |>.symm
      obtain rfl : fn = Tryd.f4 := (Option.some.inj (Tryd.func4.symm.trans hfn)).symm
      exact ⟨by kernel_rfl, fun j t ht => by
        rw [Tryd.params4] at ht
        have hm : t ∈ [9] := by simpa using Array.mem_of_getElem? ht
        have hall : ([9].all fun u => !Tryd.prog.wantsStandIn u) = true := by kernel_rfl
        exact (show Tryd.prog.wantsStandIn t = false by simpa using List.all_eq_true.1 hall t hm)⟩)
    (by kernel_rfl)
end Go.Proofs.YtpfldhaaiglgdaaDoor
