import Derived.Test.YtgojkabjgagjcaaEb
import Derived.Test.YtgojkabjgagjcaaEngT
import Derived.Test.YtgojkabjgagjcaaIp
import Derived.Test.YtgojkabjgagjcaaFkb
import Derived.Test.YtgojkabjgagjcaaFe
import Derived.Test.YtgojkabjgagjcaaGd
import Derived.Test.YtgojkabjgagjcaaEngZd
import Derived.Test.YtgojkabjgagjcaaEk
import Derived.Test.YtgojkabjgagjcaaCd
import Derived.Test.YtgojkabjgagjcaaEngZzp
import Derived.ArgAppend
import Derived.Laws.Slices
set_option linter.unusedSimpArgs false
set_option linter.unusedVariables false
set_option linter.unusedSectionVars false
set_option maxRecDepth 20000
namespace Go.Proofs.Ytgojkabjgagjcaa
attribute [local irreducible] QOp aL aC qL
theorem RowI.nd {n : Nat} {ns r : List Nat} (h : RowI n ns r) : r.Nodup := (full_perm h.len h.all).nodup_iff.2 List.nodup_range
theorem vldA {n : Nat} {ns : List Nat} (hv : Vld n ns) {a b : Nat} (h : lt ns a b = true) : a < n := lt_lt hv.2 h
section
variable {n : Nat} {ns ns' : List Nat}
/-- The points of a list in a row, by their places in the list. -/
def resL (M r : List Nat) : List Nat := (r.filter fun x => M.contains x).map fun x => M.idxOf x
end
end Go.Proofs.Ytgojkabjgagjcaa
set_option linter.unusedSimpArgs false
set_option linter.unusedVariables false
set_option linter.unusedSectionVars false
set_option maxRecDepth 20000
namespace Go.Proofs.Ytgojkabjgagjcaa
attribute [local irreducible] QOp aL aC qL
def tz64 : List Nat := [0, 1, 56, 2, 57, 49, 28, 3, 61, 58, 42, 50, 38, 29, 17, 4, 62, 47, 59, 36, 45, 43, 51, 22, 53, 39, 33, 30, 24, 18, 12, 5, 63, 55, 48, 27, 60, 41, 37, 16, 46, 35, 44, 21, 52, 32, 23, 11, 54, 26, 40, 15, 34, 20, 31, 10, 25, 14, 19, 9, 13, 8, 7, 6]
def tzi (x : Nat) : Nat := (x &&& (18446744073709551616 - x % 18446744073709551616) % 18446744073709551616) * 285870213051353865 % 18446744073709551616 / 2 ^ (58 : Int).toNat
def tzN (x : Nat) : Nat := tz64.getD (tzi x) 0
/-- The points of a set of ten at most, rising. -/
def mbs (s : Nat) : List Nat := (List.range 10).filter s.testBit
theorem mbs_mem {s p : Nat} (h : s < 1024) : p ∈ mbs s ↔ s.testBit p = true := by
  unfold mbs
  rw [List.mem_filter, List.mem_range]
  refine ⟨fun h => h.2, fun h1 => ⟨?_, h1⟩⟩
  rcases Nat.lt_or_ge p 10 with hp | hp
  · exact hp
  · rw [Nat.testBit_lt_two_pow (Nat.lt_of_lt_of_le h (Nat.pow_le_pow_right (n := 2) (by decide) hp))] at h1; cases h1
theorem mbs_len (s : Nat) : (mbs s).length ≤ 10 := by
  unfold mbs
  have := List.length_filter_le s.testBit (List.range 10)
  rw [List.length_range] at this
  exact this
end Go.Proofs.Ytgojkabjgagjcaa
set_option linter.unusedSimpArgs false
set_option linter.unusedVariables false
set_option linter.unusedSectionVars false
set_option maxRecDepth 20000
namespace Go.Proofs.Ytgojkabjgagjcaa
attribute [local irreducible] QOp aL aC qL
/-- Rows of bits, as far as the first i rows and k bits of the next one. -/
def ptB (m : Nat) (p : Nat → Nat → Bool) (i k : Nat) : List Nat := (List.range m).map fun j => bs (fun a => p a j) (if j < i then m else if j = i then k else 0)
/-- Points of a list: is the k-th one below the i-th. -/
def plP (ns L : List Nat) (k i : Nat) : Bool := lt ns (L.getD k 0) (L.getD i 0)
end Go.Proofs.Ytgojkabjgagjcaa
set_option linter.unusedSimpArgs false
set_option linter.unusedVariables false
set_option linter.unusedSectionVars false
set_option maxRecDepth 20000
namespace Go.Proofs.Ytgojkabjgagjcaa
attribute [local irreducible] QOp aL aC qL
/-! Turned over. -/
def dualP (ns : List Nat) (a b : Nat) : Bool := lt ns b a
def turnP (l : List (Nat × Nat)) (k : Nat) (a b : Nat) : Bool := (l.take k).contains (b, a)
end Go.Proofs.Ytgojkabjgagjcaa
set_option linter.unusedSimpArgs false
set_option linter.unusedVariables false
set_option linter.unusedSectionVars false
set_option maxRecDepth 20000
namespace Go.Proofs.Ytgojkabjgagjcaa
attribute [local irreducible] QOp aL aC qL
theorem Dim_bad (N : Int) (l : List Int) (e : Int) (he : e ≠ 0) (kC : AC Try.prog 10 [ordv N l] [] (.val (.int .i64 e)) []) : AC Try.prog 4 [ordv N l] [] (.tup [.val (.int .i64 0), rows [], .val (.int .i64 e)]) [] := by
  refine AC.mk (n := 29) (fn := Try.f4) Try.func4 (by kernel_rfl) rfl rfl rfl rfl (fun cx => ?_); dsimp only [argv, Nat.reduceAdd]
  (repeat' (first | refine a_seq ?_ | refine a_ret ?_ | refine a_region ?_ | refine l_nil ?_ | (apply w_q; (focus (first | exact Q_move (by conv => lhs; whnf) | exact Q_assign (by conv => lhs; whnf) | exact Q_load_all rfl rfl KAg.h | exact Q_neq rfl rfl)); (focus exact rfl)) | (refine a_cond rfl ?_ ?_ <;> (intro h; (try (have hp := of_decide_eq_true h)); (try (have hp := of_decide_eq_false h)); (try contradiction); (try (exfalso; omega)))) | refine w_box rfl rfl (by first|(dsimp only[obA,obB,obD,obE,obF,obG,obI,List.map,AO.sh,AV.sh,AV.shl,Nat.reduceAdd];done)|exact rfl) (by first|(dsimp only[obA,obB,obD,obE,obF,obG,obI,List.map,AO.sh,AV.sh,AV.shl,Nat.reduceAdd];done)|exact rfl) rfl ?_ | (((first | apply w_q); (focus (refine Q_call (.inl ⟨rfl, rfl⟩) (kC) ?_; ((repeat' (first | exact trivial | exact vwR rfl | exact Vw.ro _ | refine Vw.agg' ?_ | refine ⟨?_, ?_⟩ )); done))); (focus exact rfl))))); (try all_goals (try show retA _ _ _ _ _ _ _))
  all_goals first
    | (exfalso; omega)
    | (refine ⟨[_, _, _], [], ⟨resV_tmp (by conv => lhs; whnf), resV_tmp (by conv => lhs; whnf), resV_tmp (by conv => lhs; whnf), trivial⟩, VwOs.mk (by decide) trivial, ?_, rfl⟩; (repeat' (first | exact vwR rfl | exact vwRL rfl | exact Vw.nilro _ | refine Vw.tup' ?_ | refine ⟨?_, ?_⟩ )); done)
    | (all_goals trace_state); fail
/-- What is wrong with an order whose rows are looked for. -/
def chkR (N : Int) (l : List Int) : Int := if chk N l = 0 ∧ 7 < N then 2 else chk N l
theorem chkR_zero {N : Int} {l : List Int} (h : chkR N l = 0) : ∃ (n : Nat) (ns : List Nat), N = n ∧ l = nl ns ∧ n ≤ 7 ∧ Vld n ns ∧ okB n ns = true := by
  unfold chkR at h
  split at h
  · cases h
  · rename_i hq
    obtain ⟨n, ns, rfl, rfl, hn, hv, hok⟩ := chk_zero h
    exact ⟨n, ns, rfl, rfl, by rcases Nat.lt_or_ge 7 n with h7 | h7; exact absurd ⟨h, by omega⟩ hq; exact h7, hv, hok⟩
theorem chkR_ac (N : Int) (l : List Int) : AC Try.prog 10 [ordv N l] [] (.val (.int .i64 (chkR N l))) [] := by
  unfold chkR
  by_cases hz : chk N l = 0
  · obtain ⟨n, ns, rfl, rfl, hn, hv, hok⟩ := chk_zero hz
    by_cases h7 : 7 < n
    · rw [if_pos ⟨hz, by omega⟩]; exact checkR_many n ns hn h7 hv hok
    · rw [if_neg (fun h => h7 (by omega)), hz]; exact checkR_ok n ns (by omega) hv hok
  · rw [if_neg fun h => hz h.1]; exact checkR_err N l hz
theorem Dim_err (N : Int) (l : List Int) (h : chkR N l ≠ 0) : AC Try.prog 4 [ordv N l] [] (.tup [.val (.int .i64 0), rows [], .val (.int .i64 (chkR N l))]) [] := Dim_bad N l _ h (chkR_ac N l)
/-- The dimension (less one). -/
structure DimIs (n : Nat) (ns : List Nat) (k : Nat) (l : List (List Nat)) : Prop where
  some : covN n ns k (apL n ns) = .some l
  le : k ≤ (apL n ns).length
  least : ∀ j, j < k → covN n ns j (apL n ns) = none
theorem DimIs.ac {n : Nat} {ns : List Nat} {k : Nat} {l : List (List Nat)} (h : DimIs n ns k l) (hn : n ≤ 7) (hv : Vld n ns) (hok : okB n ns = true) :
    AC Try.prog 4 [ordv n (nl ns)] [] (.tup [.val (.int .i64 ((k + 1 : Nat))), rows (tn l), .val (.int .i64 0)]) [] := Dim_ok n ns hn hv hok k l h.some h.le h.least
theorem DimIs.low {n : Nat} {ns : List Nat} {k j : Nat} {l : List (List Nat)} (h : DimIs n ns k l) (hj : covN n ns j (apL n ns) ≠ none) : k ≤ j := by
  rcases Nat.lt_or_ge j k with h' | h'
  · exact absurd (h.least j h') hj
  · exact h'
theorem dimIs_ex {n : Nat} {ns : List Nat} (hv : Vld n ns) (hok : okB n ns = true) : ∃ k l, DimIs n ns k l := by
  obtain ⟨k, l, h1, h2, h3⟩ := dim_ex hv hok
  exact ⟨k, l, h1, h2, h3⟩
end Go.Proofs.Ytgojkabjgagjcaa
set_option linter.unusedSimpArgs false
set_option linter.unusedVariables false
set_option linter.unusedSectionVars false
namespace Go.Proofs.Ytgojkabjgagjcaa
open Go.RowKit
def capD (cs : List Dat) : FnD := ⟨fun w M v => Rd w M v (.sl 1 cs) ∧ v.oneCell' = true ∧ ∃ a, v = .slice a cs.length cs.length, fun _ _ _ h => h.2.1, fun _ _ _ _ _ hs hM h => ⟨h.1.mono hs hM, h.2⟩⟩
end Go.Proofs.Ytgojkabjgagjcaa
set_option linter.unusedSimpArgs false
set_option linter.unusedVariables false
set_option linter.unusedSectionVars false
namespace Go.Proofs.Ytgojkabjgagjcaa
open Go.RowKit
def capP (cs : List Dat) : FnD := ⟨fun w M v => Rd w M v (.sl 2 cs) ∧ v.oneCell' = true ∧ ∃ a n, v = .slice a n n ∧ n * 2 = cs.length, fun _ _ _ h => h.2.1, fun _ _ _ _ _ hs hM h => ⟨h.1.mono hs hM, h.2⟩⟩
section
variable {P : Program} {st : St} {d : Option Tmp} {ty : TypeId} {pos : String} {af : Array Edge} {g : Option (Nat × Bool)}
theorem POp.q {o : Oper} {av : AV} (h : POp P o st av) : QOp P o st av := .run fun ρ w a hr => by
  obtain ⟨v, h1, h2⟩ := h _ ρ w a hr
  exact ⟨v, h1, fun w1 _ => h2 w1⟩
end
end Go.Proofs.Ytgojkabjgagjcaa
set_option linter.unusedSimpArgs false
set_option linter.unusedVariables false
set_option linter.unusedSectionVars false
set_option maxRecDepth 20000
namespace Go.Proofs.Ytgojkabjgagjcaa
attribute [local irreducible] QOp aL aC qL
/-- Are two points comparable? -/
def cmpE (C : List Nat) (p : Nat × Nat) : Bool := lt C p.1 p.2 || lt C p.2 p.1
def allN (C : List Nat) : Nat := (C.map fun s => ((List.range 10).filter fun a => s.testBit a).length).sum
def haveN (C : List Nat) (todo : List (Nat × Nat)) : Nat := (todo.filter (cmpE C)).length
def turnN (n : Nat) (todo : List (Nat × Nat)) : Nat → List (Nat × Nat) → Option (List Nat)
  | 0, _ => none
  | f + 1, done =>
    if irr n (clos n done) = true then
      if haveN (clos n done) todo < 2 * allN (clos n done) then none
      else match todo.find? fun p => !cmpE (clos n done) p with
        | none => some (clos n done)
        | some p => match turnN n todo f (done ++ [p]) with
          | some C => some C
          | none => turnN n todo f (done ++ [(p.2, p.1)])
    else none
/-- Pairs that may be asked for: each once, and both ways. -/
structure Asked (n : Nat) (todo : List (Nat × Nat)) : Prop where
  inn : Inn n todo
  nd : todo.Nodup
  sym : ∀ p ∈ todo, (p.2, p.1) ∈ todo
/-- An order of just those pairs. -/
structure TurnO (n : Nat) (todo : List (Nat × Nat)) (Q : List Nat) : Prop where
  vld : Vld n Q
  ok : okB n Q = true
  iff : ∀ a b, a < n → b < n → (cmpE Q (a, b) = true ↔ (a, b) ∈ todo)
/-- All pairs of which one is below the other. -/
def ltL (n : Nat) (C : List Nat) : List (Nat × Nat) := (List.range n).flatMap fun b => ((List.range n).filter fun a => (C.getD b 0).testBit a).map fun a => (a, b)
/-- How many pairs are still free. -/
def msN (n : Nat) (todo done : List (Nat × Nat)) : Nat := (todo.filter fun p => !cmpE (clos n done) p).length
end Go.Proofs.Ytgojkabjgagjcaa
set_option linter.unusedSimpArgs false
set_option linter.unusedVariables false
set_option linter.unusedSectionVars false
set_option maxRecDepth 20000
namespace Go.Proofs.Ytgojkabjgagjcaa
attribute [local irreducible] QOp aL aC qL
attribute [local irreducible] FOp POp hL xH
def resT (n : Nat) (o : Option (List Nat)) : AV := match o with
  | some C => .tup [ordv n (nl C), .val (.bool true)]
  | none => .tup [ordv 0 [], .val (.bool false)]
def orE (a b : Option (List Nat)) : Option (List Nat) := match a with
  | some C => some C
  | none => b
def amT (C : List Nat) (i : Nat) : Nat := ((C.take i).map fun s => (mbs s).length).sum
/-- The first pair that is still free, of the first so many. -/
def nxE (C : List Nat) (todo : List (Nat × Nat)) (i : Nat) : Int × Int := match (todo.take i).find? fun p => !cmpE C p with
  | some p => (p.1, p.2)
  | none => (-1, -1)
def hvT (C : List Nat) (todo : List (Nat × Nat)) (i : Nat) : Nat := ((todo.take i).filter (cmpE C)).length
end Go.Proofs.Ytgojkabjgagjcaa
