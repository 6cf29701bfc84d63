import Derived.Test.YtbgecpjlopdkfaaDoorGa
import Derived.Test.YtbgecpjlopdkfaaDoorFg
import Derived.Test.YtbgecpjlopdkfaaDoorFn
set_option linter.unusedSimpArgs false
set_option linter.unusedVariables false
set_option linter.unusedSectionVars false
set_option maxRecDepth 20000
namespace Go.Proofs.YtbgecpjlopdkfaaDoor
attribute [local irreducible] QOp aL aC qL
theorem OrderOf_ac (n : Nat) (p : Nat → Nat → Bool) (hn : n ≤ 20) {cl : AV} {g : FuncId} {caps : List AV} [VwR cl] [VwRL caps] (hcl : IsFn cl g caps) (hg : ∀ a b, a < n → b < n → AC Tryd.prog g (.val (.int .i64 a) :: .val (.int .i64 b) :: caps) [] (.val (.bool (p a b))) []) :
    AC Tryd.prog 65 [.val (.int .i64 n), cl] [] (.agg [.val (.int .i64 n), .own 0]) [.row 3 1 (intc (nl (ofn n p)))] := by
  refine AC.mk (n := 36) (fn := Tryd.f65) Tryd.func65 (by kernel_rfl) rfl rfl rfl rfl (fun cx => ?_); dsimp only [argv, Nat.reduceAdd]
  (repeat' (first | refine a_seq ?_ | refine a_block ?_ | refine a_region ?_ | refine l_nil ?_ | (apply w_q; (focus (first | exact Q_move (by conv => lhs; whnf) | exact Q_assign (by conv => lhs; whnf) | exact Q_build1 KBd.h (by conv => lhs; whnf) (by conv => lhs; whnf) rfl rfl rfl (by simp only [List.map_cons, List.map_nil, List.take_succ_cons, List.take_zero, List.drop_succ_cons, List.drop_zero, List.drop_nil, List.nil_append, List.cons_append, List.append_nil, List.length_cons, List.length_nil, Nat.reduceAdd, Nat.reduceMul]; exact rfl))); (focus exact rfl)) | refine w_alloc KMk.h (by first|(dsimp only[obA,obB,obD,obE,obF,obG,obI,List.map,AO.sh,AV.sh,AV.shl,Nat.reduceAdd];done)|exact rfl) rfl (by first|(dsimp only[obA,obB,obD,obE,obF,obG,obI,List.map,AO.sh,AV.sh,AV.shl,Nat.reduceAdd];done)|exact rfl) (by first|(dsimp only[obA,obB,obD,obE,obF,obG,obI,List.map,AO.sh,AV.sh,AV.shl,Nat.reduceAdd];done)|exact rfl) rfl ?_ | refine w_store_all rfl rfl rfl rfl rfl KSz.h (by first|(dsimp only[obA,obB,obD,obE,obF,obG,obI,List.map,AO.sh,AV.sh,AV.shl,Nat.reduceAdd];done)|exact rfl) ?_)); (try all_goals (try show retA _ _ _ _ _ _ _))
  refine w_nilboxC 1 1 3 1 rfl rfl (by first|(dsimp only[obA,obB,obD,obE,obF,obG,obI,List.map,AO.sh,AV.sh,AV.shl,Nat.reduceAdd];done)|exact rfl) ?_
  refine w_loop (X := Nat) [0, 1, 4, 5] (by simp only [keepv, getv_cons, Nat.reduceEqDiff, ↓reduceIte]; exact rfl) (fun b => [(6, .val (.int .i64 (b : Int)))]) (fun b => [.box [.val (.int .i64 0), .val (.slice none 0 0)], .box [.val (.int .i64 n), .own 2], .row 3 1 (intc (nl (ofTo n p b)))]) (fun b => b ≤ n) (fun b => n - b) (0) ([0, 1, 2]) ?_ ?_ rfl ?_ <;> (try dsimp only [List.cons_append, List.nil_append])
  · exact Nat.zero_le _
  · (refine St.le_mk rfl (VwOs.mk (by decide) ?_) ?_ <;> (repeat' (first | exact trivial | exact vwR rfl | exact Vw.own _ _ rfl | exact Vw.ptr _ _ _ rfl | exact VwO.row _ _ _ | refine VwO.box' ?_ | refine ⟨⟨_, rfl, ?_⟩, ?_⟩ | refine ⟨?_, ?_⟩ )))
  rintro b hb
  have hlen := ofTo_len n p b
  have hsucc := ofTo_succ n p b
  (repeat' (first | refine a_seq ?_ | refine a_block ?_ | refine a_skip ?_ | refine a_ret ?_ | refine a_exit ?_ | refine a_region ?_ | refine l_nil ?_ | (apply w_q; (focus (first | exact Q_move (by conv => lhs; whnf) | exact Q_assign (by conv => lhs; whnf) | exact Q_load_all rfl rfl KAg.h | exact Q_lss rfl rfl)); (focus exact rfl)) | (refine a_cond rfl ?_ ?_ <;> (intro h; (try (have hp := of_decide_eq_true h)); (try (have hp := of_decide_eq_false h)); (try contradiction); (try (exfalso; omega)))) | refine w_store_all rfl rfl rfl rfl rfl KSz.h (by first|(dsimp only[obA,obB,obD,obE,obF,obG,obI,List.map,AO.sh,AV.sh,AV.shl,Nat.reduceAdd];done)|exact rfl) ?_)); (try all_goals (try show retA _ _ _ _ _ _ _))
  · refine w_loop (X := Nat) [0, 1, 4, 5, 6] (by simp only [keepv, getv_cons, Nat.reduceEqDiff, ↓reduceIte]; exact rfl) (fun a => [(7, .val (.int .i64 (bs (fun a => p a b) a : Nat))), (8, .val (.int .i64 (a : Int)))]) (fun _ => [.box [.val (.int .i64 0), .val (.slice none 0 0)], .box [.val (.int .i64 n), .own 2], .row 3 1 (intc (nl (ofTo n p b)))]) (fun a => a ≤ n) (fun a => n - a) (0) ([0, 1, 2]) ?_ ?_ rfl ?_ <;> (try dsimp only [List.cons_append, List.nil_append])
    · exact Nat.zero_le _
    · rw [show bs (fun a => p a b) 0 = 0 from rfl]
      (refine St.le_mk rfl (VwOs.mk (by decide) ?_) ?_ <;> (repeat' (first | exact trivial | exact vwR rfl | exact Vw.own _ _ rfl | exact Vw.ptr _ _ _ rfl | exact VwO.row _ _ _ | refine VwO.box' ?_ | refine ⟨⟨_, rfl, ?_⟩, ?_⟩ | refine ⟨?_, ?_⟩ )))
    rintro a ha
    have hbl := bs_lt (fun a => p a b) a
    have hpa : 2 ^ a ≤ 2 ^ 20 := Nat.pow_le_pow_right (by decide) (by omega)
    have hbs : bs (fun a => p a b) (a + 1) = if p a b = true then bs (fun a => p a b) a + 2 ^ a else bs (fun a => p a b) a := rfl
    (repeat' (first | refine a_seq ?_ | refine a_block ?_ | refine a_skip ?_ | refine a_exit ?_ | refine a_region ?_ | refine l_nil ?_ | (apply w_q; (focus (first | exact Q_move (by conv => lhs; whnf) | exact Q_assign (by conv => lhs; whnf) | exact Q_fieldAddr_ptr rfl KFl.h | exact Q_load_ptr rfl rfl rfl KSc.h | exact Q_lss rfl rfl | exact Q_add rfl rfl (by omega))); (focus exact rfl)) | (refine a_cond rfl ?_ ?_ <;> (intro h; (try (have hp := of_decide_eq_true h)); (try (have hp := of_decide_eq_false h)); (try contradiction); (try (exfalso; omega)))) | refine w_store rfl rfl rfl (by conv => lhs; whnf) rfl KSz.h (by first|(dsimp only[obA,obB,obD,obE,obF,obG,obI,List.map,AO.sh,AV.sh,AV.shl,Nat.reduceAdd];done)|exact rfl) (by first|(dsimp only[obA,obB,obD,obE,obF,obG,obI,List.map,AO.sh,AV.sh,AV.shl,Nat.reduceAdd];done)|exact rfl) ?_ | refine w_ap_nats rfl rfl rfl rfl KSl.h KMk.h (by simp; omega) (by first|(dsimp only[obA,obB,obD,obE,obF,obG,obI,List.map,AO.sh,AV.sh,AV.shl,Nat.reduceAdd];done)|exact rfl) (by first|(dsimp only[obA,obB,obD,obE,obF,obG,obI,List.map,AO.sh,AV.sh,AV.shl,Nat.reduceAdd];done)|exact rfl) rfl ?_ | refine w_lit_nat rfl KSl.h KMk.h (by first|(dsimp only[obA,obB,obD,obE,obF,obG,obI,List.map,AO.sh,AV.sh,AV.shl,Nat.reduceAdd];done)|exact rfl) (by first|(dsimp only[obA,obB,obD,obE,obF,obG,obI,List.map,AO.sh,AV.sh,AV.shl,Nat.reduceAdd];done)|exact rfl) rfl ?_ | (((first | apply w_q); (focus (refine Q_call (by exact callee_of (hcl) rfl) (hg a b (by omega) (by omega)) ?_; ((repeat' (first | exact vwRL rfl)); done))); (focus exact rfl))) | (((first | apply w_q); (focus (refine Q_call (.inl ⟨rfl, rfl⟩) (Bit_ac a (by omega)) ?_; ((repeat' (first | exact vwRL rfl)); done))); (focus exact rfl))))); (try all_goals (try show retA _ _ _ _ _ _ _))
    · refine ⟨a + 1, [0, 1, 2], ?_, ?_, ?_, rfl⟩ <;> (try dsimp only)
      · omega
      · omega
      · rw [hbs, if_pos (by assumption)]
        (refine St.le_mk rfl (VwOs.mk (by decide) ?_) ?_ <;> (repeat' (first | exact trivial | exact vwR rfl | exact Vw.own _ _ rfl | exact Vw.ptr _ _ _ rfl | exact VwO.row _ _ _ | refine VwO.box' ?_ | refine ⟨⟨_, rfl, ?_⟩, ?_⟩ | refine ⟨?_, ?_⟩ )))
    · refine ⟨a + 1, [0, 1, 2], ?_, ?_, ?_, rfl⟩ <;> (try dsimp only)
      · omega
      · omega
      · rw [hbs, if_neg (by rw [Bool.not_eq_true]; assumption)]
        (refine St.le_mk rfl (VwOs.mk (by decide) ?_) ?_ <;> (repeat' (first | exact trivial | exact vwR rfl | exact Vw.own _ _ rfl | exact Vw.ptr _ _ _ rfl | exact VwO.row _ _ _ | refine VwO.box' ?_ | refine ⟨⟨_, rfl, ?_⟩, ?_⟩ | refine ⟨?_, ?_⟩ )))
    · obtain rfl : a = n := by omega
      refine ⟨b + 1, [0, 1, 4], ?_, ?_, ?_, rfl⟩ <;> (try dsimp only)
      · omega
      · omega
      · rw [hsucc]
        (refine St.le_mk rfl (VwOs.mk (by decide) ?_) ?_ <;> (repeat' (first | exact trivial | exact vwR rfl | exact Vw.own _ _ rfl | exact Vw.ptr _ _ _ rfl | exact VwO.row _ _ _ | refine VwO.box' ?_ | refine ⟨⟨_, rfl, ?_⟩, ?_⟩ | refine ⟨?_, ?_⟩ )))
  · obtain rfl : b = n := by omega
    refine ⟨[_], [2], ⟨resV_cell rfl rfl KAg.h, trivial⟩, VwOs.mk (by decide) ⟨⟨_, rfl, .row _ _ _⟩, trivial⟩, ?_, rfl⟩
    (repeat' (first | exact trivial | exact vwR rfl | exact Vw.own _ _ rfl | refine Vw.agg' ?_ | refine ⟨?_, ?_⟩ ))
theorem SameOrder_ac (N M : Int) (l r : List Int) (hl : l.length ≤ 9223372036854775807) : AC Tryd.prog 25 [ordv N l, ordv M r] [] (.val (.bool (decide (N = M) && decide (l = r)))) [] := by
  refine AC.mk (n := 17) (fn := Tryd.f25) Tryd.func25 (by kernel_rfl) rfl rfl rfl rfl (fun cx => ?_); dsimp only [argv, Nat.reduceAdd]
  (repeat' (first | refine a_seq ?_ | refine a_ret ?_ | refine a_region ?_ | refine l_nil ?_ | (apply w_q; (focus (first | exact Q_move (by conv => lhs; whnf) | exact Q_assign (by conv => lhs; whnf) | exact Q_fieldAddr_ptr rfl KFl.h | exact Q_load_ptr rfl rfl rfl KSc.h | exact Q_eql rfl rfl | exact Q_pick_t rfl (by assumption) (by conv => lhs; whnf) | exact Q_pick_f rfl (by assumption) (by conv => lhs; whnf))); (focus exact rfl)) | refine w_guard_y rfl rfl rfl (by first | assumption | rfl) ?_ | refine w_guard_n rfl rfl rfl (by first | assumption | rfl) ?_ | (refine w_guard rfl rfl rfl ?_ ?_ <;> (intro h; (try (have hp := of_decide_eq_true h)); (try (have hp := of_decide_eq_false h)); (try contradiction); (try (exfalso; omega)))) | refine w_box rfl rfl (by first|(dsimp only[obA,obB,obD,obE,obF,obG,obI,List.map,AO.sh,AV.sh,AV.shl,Nat.reduceAdd];done)|exact rfl) (by first|(dsimp only[obA,obB,obD,obE,obF,obG,obI,List.map,AO.sh,AV.sh,AV.shl,Nat.reduceAdd];done)|exact rfl) rfl ?_ | (((first | apply w_q); (focus (refine Q_call (.inl ⟨rfl, rfl⟩) (Same_ac l r hl) ?_; ((repeat' (first | exact trivial | exact Vw.ro _ | refine ⟨?_, ?_⟩ )); done))); (focus exact rfl))))); (try all_goals (try show retA _ _ _ _ _ _ _))
  all_goals
    refine ⟨[_], [], ⟨resV_tmp (by conv => lhs; whnf), trivial⟩, VwOs.mk (by decide) trivial, ?_, rfl⟩
    exact Vw.bool' (by simp_all)
end Go.Proofs.YtbgecpjlopdkfaaDoor
set_option linter.unusedSimpArgs false
set_option linter.unusedVariables false
set_option linter.unusedSectionVars false
set_option maxRecDepth 20000
namespace Go.Proofs.YtbgecpjlopdkfaaDoor
attribute [local irreducible] QOp aL aC qL
theorem vget {n : Nat} {ns : List Nat} (hv : Vld n ns) (hn : n ≤ 10) (k : Nat) : ns.getD k 0 < 1024 := Nat.lt_of_lt_of_le (hv.get k) (p2_10 hn)
def lowP (n : Nat) (ns : List Nat) (i : Nat) : Bool := (List.range n).all fun k => !lt ns k i
def highP (n : Nat) (ns : List Nat) (i : Nat) : Bool := (List.range n).all fun k => !lt ns i k
def zeroP (ns : List Nat) (i : Nat) : Bool := decide (ns.getD i 0 = 0)
def hiTo (n : Nat) (ns : List Nat) : Nat → Nat
  | 0 => 2 ^ n - 1
  | b + 1 => ndiff (hiTo n ns b) (ns.getD b 0)
theorem any_succ (p : Nat → Bool) (k : Nat) : (List.range (k + 1)).any p = ((List.range k).any p || p k) := by rw [List.range_succ, List.any_append]; simp
/-! Ideals. -/
def idl (n : Nat) (ns : List Nat) (s : Nat) : Bool := (List.range n).all fun b => !s.testBit b || sub (ns.getD b 0) s
def idTo (n : Nat) (ns : List Nat) (k : Nat) : List Nat := (List.range k).filter (idl n ns)
end Go.Proofs.YtbgecpjlopdkfaaDoor
