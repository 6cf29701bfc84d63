import Derived.Test.YtpfldhaaiglgdaaDoorEngZzu
import Derived.Test.YtpfldhaaiglgdaaDoorTypes
import Derived.Tactics
import Derived.Tactics2
import Derived.Laws.Pointers
import Derived.RegionTactic
import Derived.RegionCalls
import Derived.ChangeAlike
import Derived.Lib.Builder
import Derived.WalkKit
import Derived.Shelf.RegionOpenPlain
set_option linter.unusedSimpArgs false
set_option linter.unusedVariables false
set_option linter.unusedSectionVars false
set_option maxRecDepth 20000
namespace Go.Proofs.YtpfldhaaiglgdaaDoor
open Go.RowKit
theorem bd_noesc (x : Value) (w : World) : (callFunc 144 #[x]).run Tryd.prog w = .ok (.value x) w := by
  rw [run_callFunc_extern Tryd.func144 (by kernel_rfl) (by kernel_rfl) (by kernel_rfl) (e := Extern.AbiNoEscape.same) (by kernel_rfl), Lib.run_noEscape]
  rfl
set_option maxHeartbeats 1000000 in
set_option maxRecDepth 100000 in
theorem bd_check0 (b : Nat) (v : Value) (w : World) (hb : w.heap[b]? = some (.cells #[.pointer none, v] 80 (0, 0))) :
    Calls Tryd.prog 111 #[.pointer (some ⟨b, 0, none⟩)] w fun e w' => e = .returned (.tuple #[]) ∧ w' = w.setCell ⟨b, 0, none⟩ (.pointer (some ⟨b, 0, none⟩)) := by
  have hi : (Tryd.prog.info? 80).map (fun i => decide (i.size = 0)) = some false := by kernel_rfl
  obtain ⟨j, hj, hjs⟩ := Option.map_eq_some_iff.1 hi
  have c0 : w.cell? ⟨b, 0, none⟩ = some (.pointer none) := by rw [Lib.cell_of_heap hb]; rfl
  have hsh : w.shape? b = some (80, 2) := by simp [World.shape?, hb]
  have hfz : w.frozen? ⟨b, 0, none⟩ = false := Lib.frozen_of_heap hb 0
  have hto := Lib.run_to_unsafe (P := Tryd.prog) w ⟨b, 0, none⟩ (src := 77) (dst := 175) Tryd.underlying77 Tryd.underlying175 hj (of_decide_eq_false hjs) hsh (Nat.zero_lt_succ 1)
  have hfrom := Lib.run_from_unsafe (P := Tryd.prog) w ⟨b, 0, none⟩ (src := 175) (dst := 77) Tryd.underlying175 Tryd.underlying77 hj hsh (by kernel_rfl)
  have hne := bd_noesc
  have u91 := run_underlying Tryd.underlying77
  go_enter Tryd.func111, Tryd.ntmps111
  go_wp2
  go_end0
  exact ⟨rfl, rfl⟩
set_option maxHeartbeats 1000000 in
set_option maxRecDepth 100000 in
theorem bd_check1 (b : Nat) (v : Value) (w : World) (hb : w.heap[b]? = some (.cells #[.pointer (some ⟨b, 0, none⟩), v] 80 (0, 0))) :
    Calls Tryd.prog 111 #[.pointer (some ⟨b, 0, none⟩)] w fun e w' => e = .returned (.tuple #[]) ∧ w' = w := by
  have hi : (Tryd.prog.info? 80).map (fun i => decide (i.size = 0)) = some false := by kernel_rfl
  obtain ⟨j, hj, hjs⟩ := Option.map_eq_some_iff.1 hi
  have c0 : w.cell? ⟨b, 0, none⟩ = some (.pointer (some ⟨b, 0, none⟩)) := by rw [Lib.cell_of_heap hb]; rfl
  have hne := fun w => Lib.run_neq_ptr_same (P := Tryd.prog) w ⟨b, 0, none⟩ Tryd.underlying77 hj
  have u91 := run_underlying Tryd.underlying77
  go_enter Tryd.func111, Tryd.ntmps111
  go_wp2
  first | rw [hne] | skip
  go_wp2
  go_end0
  exact ⟨rfl, rfl⟩
/-- Behind it the builder holds its own address. -/
theorem bd_check (b : Nat) (v : Value) (w : World) (h : BldAt w b v 80) :
    Calls Tryd.prog 111 #[.pointer (some ⟨b, 0, none⟩)] w fun e w' => e = .returned (.tuple #[]) ∧ w'.heap[b]? = some (.cells #[.pointer (some ⟨b, 0, none⟩), v] 80 (0, 0)) ∧ Same (fun x => x = b) w w' ∧ w'.heap.size = w.heap.size := by
  obtain ⟨p, rfl | rfl, hb⟩ := h
  · refine (bd_check0 b v w hb).mono ?_
    rintro e w' ⟨rfl, rfl⟩
    refine ⟨rfl, ?_, Same.setCell w _ _ _ fun _ => rfl, by simp⟩
    rw [setCell_eq_setRow w b 0 _ _ _ _ hb]
    exact setRow_heap w b _ _ _ _ hb
  · refine (bd_check1 b v w hb).mono ?_
    rintro e w' ⟨rfl, rfl⟩
    exact ⟨rfl, hb, Same.refl _ _, rfl⟩
/-- append(b, s...). -/
theorem app_str {P : Program} {w : World} {T U e ty : TypeId} {i : TypeInfo} (ht : P.underlying T = some (.slice e)) (hu : P.underlying U = some .string) (hi : P.info? e = some i) (hz : i.zero = some (.int .u8 0)) (hs1 : i.size = 1) (hby : i.bytes = 1)
    {v : Value} {n : Nat} {us : List Value} (h2 : w.ownsRow 0 e 1 v n us) (s : ByteArray) (hbig : n + s.size ≤ 1000000) :
    ∃ v' w', (Builtin.append_ #[T, U] ty #[v, .string s]).run P w = .ok v' w' ∧ w'.ownsRow 0 e 1 v' (n + s.size) (us ++ Lib.strCells s) ∧ w.grownBy w' v.ownBlock ∧ (∀ b, ablk v' = some b → ablk v = some b ∨ w.heap.size ≤ b) := by
  obtain ⟨v', w', hrun, how, hgr, hnil⟩ := Lib.run_append_own_string (P := P) w 0 T U ty e i ht hu hi hz hs1 hby v n us h2 s (by unfold maxLen; omega) (by omega) (Nat.zero_le _)
  refine ⟨v', w', hrun, how, hgr, fun b hb' => ?_⟩
  have hul : us.length = n := by have := h2.1; omega
  rcases h2.2 with ⟨rfl, rfl⟩ | ⟨g, cap0, cur0, rfl, _, hg0, hnc0, hcm0, hcs0, htk0⟩
  · right
    rcases how.2 with ⟨rfl, _⟩ | ⟨b', cap, cur, rfl, _, hh, _⟩
    · cases hb'
    · cases hb'
      have h0 : s.size ≠ 0 := fun h => by have := hnil.2 ⟨rfl, h⟩; cases this
      have h5 := run_append_nil_string (P := P) w T U ty e i (.int .u8 0) ht hu hi hz s (by omega) (by omega) (by rw [hby]; omega)
      rw [hrun] at h5
      simp only [Result.ok.injEq, Value.slice.injEq, Option.some.injEq, Addr.mk.injEq] at h5
      exact Nat.le_of_eq h5.1.1.1.symm
  · by_cases hroom : n + s.size ≤ cap0
    · left
      have h5 := Lib.run_append_room_string (P := P) w T U ty e i ht hu hi hs1 g n cap0 cur0 hg0 s hroom (by omega)
      rw [hrun] at h5
      cases h5
      exact hb'
    · right
      have h5 := Lib.run_append_grow_string (P := P) w T U ty e i (.int .u8 0) ht hu hi hz ⟨g, 0, none⟩ n cap0 us (by rw [hs1]; omega) (h2.cells (g := g) rfl) s (by omega) (by omega) (by rw [hby]; exact growslice_fits (by omega) (by omega))
      rw [hrun] at h5
      cases h5
      cases hb'
      exact Nat.le_refl _
theorem wpl_str {P : Program} {ops : Array Oper} {rest : List Oper} {o : Oper} {a : Act} {Q : Exit → Act → World → Prop} {w w' : World} {v v' : Value} {s : ByteArray} (hgd : o.guard = none) (sl x : Operand) (t u : TypeId)
    (ho : o.op = .call { callee := .builtin .append, args := #[sl, x], argTypes := #[t, u] }) (hrun : (Builtin.append_ #[t, u] o.type #[v, .string s]).run P w = .ok v' w') (hs : a.eval sl = v) (hx : a.eval x = .string s)
    (h : wpList P ops Q rest (a.put o.dst v') w') : wpList P ops Q (o :: rest) a w := by
  refine wpList_plain hgd fun K hK => ?_
  unfold Oper.wp execOp
  simp only [ho, resolve, invoke, builtin, Sem.run_bind, Sem.run_pure, Result.andThen_ok, List.map_toArray, List.map_cons, List.map_nil, hs, hx, hrun]
  exact hK _ _ h
set_option maxHeartbeats 2000000 in
set_option maxRecDepth 100000 in
theorem bd_write (b : Nat) (v : Value) (cs : List Value) (s : ByteArray) (w : World) (h : BldAt w b v 80) (how : w.ownsRow 0 5 1 v cs.length cs) (hne : ablk v ≠ some b) (hbig : cs.length + s.size ≤ 1000000) :
    Calls Tryd.prog 49 #[.pointer (some ⟨b, 0, none⟩), .string s] w fun e w' => ∃ v', e = .returned (.tuple #[.int .i64 s.size, .nilIface]) ∧ BldAt w' b v' 80 ∧
      w'.ownsRow 0 5 1 v' (cs.length + s.size) (cs ++ Lib.strCells s) ∧ ablk v' ≠ some b ∧ Same (fun x => x = b ∨ ablk v = some x) w w' ∧ ∀ x, ablk v' = some x → ablk v = some x ∨ w.heap.size ≤ x := by
  have hmk : MkT Tryd.prog 5 (.int .u8 0) 1 1 := KMk.h
  obtain ⟨i, hi, hz, hs1, hby⟩ := hmk.info
  have hvb : ∀ x, v.ownBlock = some x → ablk v = some x := fun x hx => by
    rcases how.2 with ⟨rfl, _⟩ | ⟨g, cap, cur, rfl, _⟩
    · cases hx
    · exact hx
  have e110 : ∀ args w, (callFunc 111 args).run Tryd.prog w = .ok (.enter 111 args) w := enters_of Tryd.func111 (by kernel_rfl) rfl
  go_enter Tryd.func49, Tryd.ntmps49
  go_wp2_with (go_at_fn 111; refine (bd_check b v _ h).mono ?_)
  rintro e w1 ⟨rfl, hb1, s1, z1⟩
  have how1 : w1.ownsRow 0 5 1 v cs.length cs := ownsRow_same s1 (fun x hx e => hne (e ▸ hx)) how
  have c1 : w1.cell? ⟨b, 1, none⟩ = some v := by rw [Lib.cell_of_heap hb1]; rfl
  obtain ⟨v', w2, hrun, how2, hgr, hblk⟩ := app_str (P := Tryd.prog) (w := w1) (T := 78) (U := 9) (ty := 78) Tryd.underlying78 Tryd.underlying9 hi hz hs1 hby how1 s hbig
  have hlt : b < w1.heap.size := (Array.getElem?_eq_some_iff.1 hb1).1
  have hb2 : w2.heap[b]? = some (.cells #[.pointer (some ⟨b, 0, none⟩), v] 80 (0, 0)) := by
    rw [hgr.block b hlt (fun e => hne (hvb b e.symm))]
    exact hb1
  have d1 : w2.cell? ⟨b, 1, none⟩ = some v := by rw [Lib.cell_of_heap hb2]; rfl
  have f1 : w2.frozen? ⟨b, 1, none⟩ = false := Lib.frozen_of_heap hb2 1
  obtain ⟨ao, n', cap, rfl⟩ : ∃ ao n' cap, v' = .slice ao n' cap := by
    rcases how2.2 with ⟨rfl, _⟩ | ⟨g, cap, cur, rfl, _⟩
    · exact ⟨_, _, _, rfl⟩
    · exact ⟨_, _, _, rfl⟩
  go_wp2_with (at_builtin; refine wpl_str rfl _ _ _ _ rfl hrun rfl rfl ?_)
  go_wp2
  go_ret2
  have hsm2 : Same (fun x => x = b ∨ ablk v = some x) w w2 := by
    have a1 : Same (fun x => x = b ∨ ablk v = some x) w w1 := ⟨s1.os, s1.tape, s1.output, s1.size, fun k hk hn => s1.block k hk fun e => hn (.inl e)⟩
    have a2 : Same (fun x => x = b ∨ ablk v = some x) w1 w2 := Same.grown hgr _ fun x hx => .inr (hvb x hx)
    exact a1.trans a2 fun _ _ h => h
  have hbl : ∀ x, ablk (Value.slice ao n' cap) = some x → ablk v = some x ∨ w.heap.size ≤ x := fun x hx => by rw [← z1]; exact hblk x hx
  have hvne : ablk (Value.slice ao n' cap) ≠ some b := fun e => by
    rcases hblk b e with h1 | h1
    · exact hne h1
    · omega
  have hset : (w2.setCell ⟨b, 1, none⟩ (.slice ao n' cap)).heap[b]? = some (.cells #[.pointer (some ⟨b, 0, none⟩), .slice ao n' cap] 80 (0, 0)) := by
    rw [setCell_eq_setRow w2 b 1 _ _ _ _ hb2]
    exact setRow_heap w2 b _ _ _ _ hb2
  have hs3 : Same (fun x => x = b) w2 (w2.setCell ⟨b, 1, none⟩ (.slice ao n' cap)) := Same.setCell w2 _ _ _ fun _ => rfl
  refine ⟨_, rfl, ⟨_, .inr rfl, hset⟩, ownsRow_same hs3 (fun x hx e => hvne (e ▸ hx)) how2, hvne, hsm2.trans ⟨hs3.os, hs3.tape, hs3.output, hs3.size, fun k hk hn => hs3.block k hk fun e => hn (.inl e)⟩ fun _ _ h => h, hbl⟩
theorem same_freeze (w : World) (p : Addr) (n : Nat) : Same (fun x => x = p.block) w (w.freeze p n) := by
  unfold World.freeze
  split
  · exact Same.refl _ _
  · exact ⟨rfl, rfl, rfl, by simp, fun k hk hn => by
      simp only [Array.getElem?_modify]
      rw [if_neg (Ne.symm hn)]⟩
set_option maxHeartbeats 1000000 in
set_option maxRecDepth 100000 in
theorem bd_str (b : Nat) (v : Value) (l : List UInt8) (w : World) (h : BldAt w b v 80) (how : w.ownsRow 0 5 1 v l.length (Lib.byteCells l)) (h0 : l ≠ []) :
    Calls Tryd.prog 51 #[.pointer (some ⟨b, 0, none⟩)] w fun e w' => e = .returned (.string ⟨l.toArray⟩) ∧ Same (fun x => ablk v = some x) w w' := by
  obtain ⟨p, hp, hbk⟩ := h
  have hl0 : l.length ≠ 0 := by simpa using h0
  obtain ⟨g, cap, cur, rfl, hg, hnc, hcm, hcs⟩ : ∃ g cap cur, v = .slice (some ⟨g, 0, none⟩) l.length cap ∧ w.heap[g]? = some (.cells cur 5 (0, 0)) ∧ l.length ≤ cap ∧ cap ≤ maxLen ∧ cur.size = cap * 1 := by
    rcases how.2 with ⟨_, hz⟩ | ⟨g, cap, cur, hv, _, r1, r2, r3, r4, _⟩
    · exact absurd hz hl0
    · exact ⟨g, cap, cur, hv, r1, r2, r3, r4⟩
  have c1 : w.drew.cell? ⟨b, 1, none⟩ = some (.slice (some ⟨g, 0, none⟩) l.length cap) := by
    have : w.drew.heap[b]? = some (.cells #[p, .slice (some ⟨g, 0, none⟩) l.length cap] 80 (0, 0)) := hbk
    rw [Lib.cell_of_heap this]; rfl
  have hSD : (Builtin.unsafeSliceData_ #[78] 147 #[.slice (some ⟨g, 0, none⟩) l.length cap]).run Tryd.prog w.drew = .ok (.pointer (some ⟨g, 0, none⟩)) w.drew :=
    Lib.run_unsafeSliceData_row _ _ _ _ _ _ (by omega)
  have hUS : (Builtin.unsafeString_ #[147, 3] 9 #[.pointer (some ⟨g, 0, none⟩), .int .i64 l.length]).run Tryd.prog w.drew = .ok (.string ⟨l.toArray⟩) (w.drew.freeze ⟨g, 0, none⟩ l.length) := by
    refine Lib.run_unsafeString_row w.drew 147 3 9 5 Tryd.underlying147 (by kernel_rfl) g cur.size (by have hg' : w.drew.heap[g]? = some (.cells cur 5 (0, 0)) := hg; simp [World.shape?, hg']) l h0 (by omega) (by unfold maxLen at hcm; omega) ?_
    intro j x hx
    have := how.cells (g := g) rfl j (.int .u8 x.toNat) (by simp [Lib.byteCells, hx])
    exact this
  have mixed : Tryd.prog.follows .mixedOrders = true := by kernel_rfl
  go_enter Tryd.func51, Tryd.ntmps51
  go_wp2
  go_region_o
  all_goals (go_wp2; go_ret; exact ⟨rfl, (Same.drew w _).trans (same_freeze _ _ _) fun x _ hx => by subst hx; rfl⟩)
end Go.Proofs.YtpfldhaaiglgdaaDoor
