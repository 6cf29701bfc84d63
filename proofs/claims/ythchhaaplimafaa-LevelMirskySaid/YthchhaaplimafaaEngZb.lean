/- Regions that draw their order, in which operations make memory: what only reads goes first, the makers in all their orders, and the end in its order. -/
import Derived.OrdersHeld
import Derived.Test.YthchhaaplimafaaEngZa
set_option linter.unusedSimpArgs false
set_option linter.unusedVariables false
namespace Go.Proofs.Ythchhaaplimafaa
open Go.RowKit
section
variable {P : Program} {ops : Array Oper} {md : Region.Mode} {S : World → Prop} {Q : Exit → Act → World → Prop}
/-- Whatever order is picked of the n first, S behind each. -/
def anyGrow (P : Program) (md : Region.Mode) (ops : Array Oper) (Q : Exit → Act → World → Prop) (S : World → Prop) (n : Nat) (L : Array Bool → Act → World → Prop) : Nat → Array Bool → Act → World → Prop
  | 0, listed, a, w => L listed a w
  | f + 1, listed, a, w => Region.ready md ops listed ≠ [] ∧ ∀ i ∈ Region.ready md ops listed, i < n ∧ wpOp P ops Q i (fun a' w' => S w' ∧ anyGrow P md ops Q S n L f (listed.setIfInBounds i true) a' w') a w
theorem any_of_grow {n g : Nat} {L : Array Bool → Act → World → Prop} (hL : ∀ listed a w, L listed a w → wpAny P md ops Q g listed a w) :
    ∀ (f : Nat) (listed : Array Bool) (a : Act) (w : World), anyGrow P md ops Q S n L f listed a w → wpAny P md ops Q (f + g) listed a w
  | 0, listed, a, w, h => by rw [Nat.zero_add]; exact hL _ _ _ h
  | f + 1, listed, a, w, h => by
    rw [show f + 1 + g = (f + g) + 1 by omega]
    exact ⟨fun h0 => absurd h0 h.1, fun i hi => wpOp_mono (fun a' w' h' => any_of_grow hL f _ a' w' h'.2) (h.2 i hi).2⟩
theorem grow_mono {S' : World → Prop} {n : Nat} {L : Array Bool → Act → World → Prop} (hS : ∀ w, S w → S' w) :
    ∀ (f : Nat) (listed : Array Bool) (a : Act) (w : World), anyGrow P md ops Q S n L f listed a w → anyGrow P md ops Q S' n L f listed a w
  | 0, _, _, _, h => h
  | f + 1, _, _, _, h => ⟨h.1, fun i hi => ⟨(h.2 i hi).1, wpOp_mono (fun a' w' h' => ⟨hS _ h'.1, grow_mono hS f _ a' w' h'.2⟩) (h.2 i hi).2⟩⟩
theorem anyGrow_first {n i : Nat} {oi : Oper} {v : Value} {L : Array Bool → Act → World → Prop} (hi : ops[i]? = some oi) (hsel : ∀ (j : Nat) (o : Oper) cs b, ops[j]? = some o → o.op ≠ .select cs b)
    (hs : Region.sinkB md ops n = true) (hc : Region.chainB md ops n = true) (hn : n < ops.size) (hin : i < n) (hdone : ∀ listed a w, L listed a w → ∀ j ∈ Region.ready md ops listed, n ≤ j)
    (hQ : ∀ c a w, Q (.panic c) (a.put oi.dst v) w → Q (.panic c) a w) :
    ∀ (f : Nat) (listed : Array Bool) (a : Act) (w : World), HeadInv md ops n listed →
      (∀ j oj, ops[j]? = some oj → j ≠ i → listed.getD j true = false → (∀ e ∈ oj.after, Region.binds md e = true → e.on ≠ i) → oi.apart ops oj = true) →
      i ∈ Region.ready md ops listed → YieldsIf P ops S oi v a → S w → anyGrow P md ops Q S n L f (listed.setIfInBounds i true) (a.put oi.dst v) w → anyGrow P md ops Q S n L (f + 1) listed a w := by
  intro f
  induction f with
  | zero =>
    intro listed a w inv _ hr hy hS H
    have hun := (mem_ready.1 hr).1
    refine ⟨fun h => (by rw [h] at hr; cases hr), fun j hj => ?_⟩
    have hjn : j < n := by
      rcases Nat.lt_or_ge j n with h | h
      · exact h
      · exact absurd hj (tail_waits hs hc hn inv _ i rfl hin hun j h)
    refine ⟨hjn, ?_⟩
    by_cases hji : j = i
    · subst hji; exact hy.wpOp hi hS ⟨hS, H⟩
    · have := hdone _ _ _ H j (ready_mono hj hji)
      omega
  | succ f ih =>
    intro listed a w inv hfree hr hy hS H
    have hun := (mem_ready.1 hr).1
    refine ⟨fun h => (by rw [h] at hr; cases hr), fun j hj => ?_⟩
    have hjn : j < n := by
      rcases Nat.lt_or_ge j n with h | h
      · exact h
      · exact absurd hj (tail_waits hs hc hn inv _ i rfl hin hun j h)
    refine ⟨hjn, ?_⟩
    by_cases hji : j = i
    · subst hji; exact hy.wpOp hi hS ⟨hS, H⟩
    · have h1 := (H.2 j (ready_mono hj hji)).2
      obtain ⟨hjun, oj, hoj, hall⟩ := mem_ready.1 hj
      have hnot : ∀ e ∈ oj.after, Region.binds md e = true → e.on ≠ i := fun e he hb heq => by
        have h1 := hall e he hb
        rw [heq, getD_both hun] at h1
        cases h1
      have h2 := wpOp_putIf hoj (hfree j oj hoj hji hjun hnot) (fun cs b => hsel i oi cs b hi) (fun cs b => hsel j oj cs b hoj) hQ hy h1
      have hfree' : ∀ k ok, ops[k]? = some ok → k ≠ i → (listed.setIfInBounds j true).getD k true = false →
          (∀ e ∈ ok.after, Region.binds md e = true → e.on ≠ i) → oi.apart ops ok = true := fun k ok hk hki hun hno => by
        refine hfree k ok hk hki ?_ hno
        by_cases hjk : j = k
        · subst hjk; exact hjun
        · rw [getD_set_ne true hjk] at hun; exact hun
      refine wpOp_mono (fun a' w' h3 => ⟨h3.2.1, ih (listed.setIfInBounds j true) a' w' (inv.set hj hjn) hfree' (ready_mono hr (Ne.symm hji)) h3.1 h3.2.1 ?_⟩) h2
      rw [Array.setIfInBounds_comm _ _ hji]
      exact h3.2.2
end
/-! What gives a value and is no call. -/
def plainB : Op → Bool
  | .load .. | .binOp .. | .unOp .. | .build .. | .fieldAddr .. | .indexAddr .. | .field .. | .index .. => true
  | _ => false
theorem v_run {P : Program} {w w' : World} {s : Sem Value} {n : Next} (h : (do pure (Next.value (← s)) : Sem Next).run P w = .ok n w') : ∃ v, n = .value v := by
  rw [Sem.run_bind] at h
  cases hs : s.run P w with
  | ok x w1 =>
    rw [hs, Result.andThen_ok, Sem.run_pure] at h
    injection h with h1 _
    exact ⟨x, h1.symm⟩
  | halt x w1 => rw [hs] at h; cases h
theorem plain_value {P : Program} {w w' : World} {ev : Operand → Value} {o : Oper} {n : Next} (hp : plainB o.op = true) (h : (execOp ev o).run P w = .ok n w') : ∃ v, n = .value v := by
  unfold execOp at h
  obtain ⟨d, op, ty, pos, af, g⟩ := o
  cases op <;> first | exact v_run h | cases hp
theorem quiet_plain {P : Program} {o : Oper} {a : Act} {C : World → Prop} {w : World} {v : Value} (hp : plainB o.op = true) (h : o.quietAt P a C w v) : (execOp a.eval o).run P w = .ok (.value v) w := by
  unfold Oper.quietAt at h
  generalize hr : (execOp a.eval o).run P w = r at h
  cases r with
  | ok n w' =>
    obtain ⟨u, rfl⟩ := plain_value hp hr
    obtain ⟨e1, e2⟩ := h
    subst e1; subst e2
    rfl
  | halt x w' => exact h.elim
section
variable {P : Program} {k : Nat} {cx : Cx k} {ops : Array Oper} {st : St} {K : St → Prop} {l2 : List Oper} {n g : Nat}
/-- What is left of the head, told by listed. -/
def zL [Zs] (P : Program) {k : Nat} (cx : Cx k) (ops : Array Oper) (K : St → Prop) (l2 : List Oper) (n g f : Nat) (listed : List Bool) (st : St) : Prop :=
  HeadInv .any ops n listed.toArray → ∀ a w, Rel cx st a w → anyGrow P .any ops (lift cx (ThenK K)) (Below w.heap.size w) n (fun listed a w => Region.seqB .any ops g n listed = true ∧ wpList P ops (lift cx (ThenK K)) l2 a w) f listed.toArray a w
theorem z_done [Zs] {listed : List Bool} (hq : Region.seqB .any ops g n listed.toArray = true) (h : aL P cx ops (ThenK K) l2 st) : zL P cx ops K l2 n g 0 listed st :=
  fun _ a w hr => ⟨hq, h a w hr⟩
/-- One that only reads goes first. -/
theorem z_q [Zs] {f : Nat} {listed : List Bool} (i : Nat) {d : Tmp} {op : Op} {ty : TypeId} {pos : String} {af : Array Edge} {av : AV} (hi : ops[i]? = some ⟨some d, op, ty, pos, af, none⟩)
    (hb : (Region.noSelect ops && Region.sinkB .any ops n && Region.chainB .any ops n && Nat.blt n ops.size && Nat.blt i n && Region.free .any ops listed.toArray i && (Region.ready .any ops listed.toArray).contains i && plainB op) = true)
    (hq : QOp P ⟨some d, op, ty, pos, af, none⟩ st av) (hd : Nat.blt d st.n = true) (h : zL P cx ops K l2 n g f (listed.set i true) (st.put d av)) : zL P cx ops K l2 n g (f + 1) listed st := by
  simp only [Bool.and_eq_true, Nat.blt_eq] at hb
  obtain ⟨⟨⟨⟨⟨⟨⟨b1, b2⟩, b3⟩, b4⟩, b5⟩, b6⟩, b7⟩, b8⟩ := hb
  intro inv a w hr
  obtain ⟨ρ, hb, hf, h0⟩ := hr.base
  obtain ⟨v, hg, hv⟩ := hq _ ρ w a hb
  have hr' : i ∈ Region.ready .any ops listed.toArray := by simpa using b7
  refine anyGrow_first hi (Region.noSelect_spec b1) b2 b3 b4 b5 (fun listed a w hL => seqB_ready hL.1) (fun c a w hp => ?_) f listed.toArray a w inv (Region.free_spec hi b6) hr' (v := v)
    (.inl ⟨by simp [Region.wanted], fun w1 hw1 => quiet_plain b8 (hv w1 hw1)⟩) (Below.refl _ _) ?_
  · obtain ⟨st', h1, _⟩ := hp
    exact h1.elim
  · have e : listed.toArray.setIfInBounds i true = (listed.set i true).toArray := by simp
    rw [e]
    exact h (by rw [← e]; exact inv.set hr' b5) _ _ ⟨⟨ρ, hb.put hd hg, hf, h0⟩, hr.same⟩
/-- An operation that makes memory, and writes on none. -/
def GOp (P : Program) (o : Oper) (d : Tmp) (st st2 : St) (av : AV) : Prop :=
  st.n = st2.n ∧ st.vars = st2.vars ∧ ∀ (_ : Zs) (ρ : Ids) (w : World) (a : Act), RelB ρ w st a → ∀ (nx : Act → World → Prop) (R : Exit → Act → World → Prop), (∀ v w' ρ', Below w.heap.size w w' → Same (Own ρ st.objs) w w' → (∀ (id : Nat) l, ρ[id]? = some l → ρ'[id]? = some l) →
      (∀ b, b < w.heap.size → Own ρ' st2.objs b → Own ρ st.objs b) → Good ρ' w' st2.objs → Gm ρ' w' (Ban ρ' st2.objs) av v → nx (a.put (some d) v) w') → o.wp P a w nx R
theorem g_of {d : Tmp} {op : Op} {ty : TypeId} {pos : String} {af : Array Edge} {st2 : St} {av : AV} (h1 : st.n = st2.n) (h2 : st.vars = st2.vars)
    (h : ∀ (_ : Zs) (ρ : Ids) (w : World) (a : Act), RelB ρ w st a → ∃ v w' ρ', (execOp a.eval ⟨some d, op, ty, pos, af, none⟩).run P w = .ok (.value v) w' ∧ Below w.heap.size w w' ∧ Same (Own ρ st.objs) w w' ∧ (∀ (id : Nat) l, ρ[id]? = some l → ρ'[id]? = some l) ∧
      (∀ b, b < w.heap.size → Own ρ' st2.objs b → Own ρ st.objs b) ∧ Good ρ' w' st2.objs ∧ Gm ρ' w' (Ban ρ' st2.objs) av v) : GOp P ⟨some d, op, ty, pos, af, none⟩ d st st2 av := by
  refine ⟨h1, h2, fun zs ρ w a hb nx R hnx => ?_⟩
  obtain ⟨v, w', ρ', hrun, hbel, hs, hρ, hM, hg, hgm⟩ := h zs ρ w a hb
  unfold Oper.wp
  rw [hrun]
  exact hnx v w' ρ' hbel hs hρ hM hg hgm
def zAll [Zs] (P : Program) {k : Nat} (cx : Cx k) (ops : Array Oper) (K : St → Prop) (l2 : List Oper) (n g f : Nat) (listed : List Bool) (st : St) : List Nat → Prop
  | [] => True
  | i :: r => (∃ d op ty pos af st2 av, ops[i]? = some ⟨some d, op, ty, pos, af, none⟩ ∧ Nat.blt i n = true ∧ GOp P ⟨some d, op, ty, pos, af, none⟩ d st st2 av ∧ Nat.blt d st2.n = true ∧ zL P cx ops K l2 n g f (listed.set i true) (st2.put d av)) ∧ zAll P cx ops K l2 n g f listed st r
theorem zAll_mem [Zs] {f : Nat} {listed : List Bool} : ∀ {l : List Nat}, zAll P cx ops K l2 n g f listed st l → ∀ i ∈ l, ∃ d op ty pos af st2 av, ops[i]? = some ⟨some d, op, ty, pos, af, none⟩ ∧ Nat.blt i n = true ∧ GOp P ⟨some d, op, ty, pos, af, none⟩ d st st2 av ∧ Nat.blt d st2.n = true ∧ zL P cx ops K l2 n g f (listed.set i true) (st2.put d av)
  | [], _, i, hi => by simp at hi
  | j :: l, h, i, hi => by
    rcases List.mem_cons.1 hi with rfl | hi
    · exact h.1
    · exact zAll_mem h.2 i hi
theorem z_step [Zs] {f : Nat} {listed : List Bool} {i : Nat} {is : List Nat} (hr : Region.ready .any ops listed.toArray = i :: is) (h : zAll P cx ops K l2 n g f listed st (i :: is)) : zL P cx ops K l2 n g (f + 1) listed st := by
  intro inv a w hrel
  refine ⟨fun h0 => (by rw [hr] at h0; cases h0), fun j hj => ?_⟩
  have hj' := hj
  rw [hr] at hj
  obtain ⟨d, op, ty, pos, af, st2, av, ho, hjn, ⟨hn, hvars, hG⟩, hd, hz⟩ := zAll_mem h j hj
  rw [Nat.blt_eq] at hjn
  obtain ⟨ρ, hb, hf, h0⟩ := hrel.base
  refine ⟨hjn, ?_⟩
  unfold wpOp
  simp only [ho]
  rw [if_pos (by simp [Region.wanted])]
  left
  refine hG _ ρ w a hb _ _ fun v w' ρ' hbel hs hρ hM hg hgm => ?_
  have e : listed.toArray.setIfInBounds j true = (listed.set j true).toArray := by simp
  refine ⟨hbel, ?_⟩
  rw [e]
  refine grow_mono (fun w1 h1 => ?_) _ _ _ _ (hz (by rw [← e]; exact inv.set hj' hjn) _ _ (Rel.step hrel hf h0 hs hρ (st2 := st2.put d av) hM (RelB.put (st := st2) ⟨fun t => ?_, hb.size.trans hn, hb.defers, hg⟩ hd hgm)))
  · exact hbel.trans (h1.mono hbel.size)
  · have := (hb.frame t).ext hs hρ hM
    unfold St.get at this ⊢
    rw [← hvars]; exact this
theorem a_grow [Zs] {id : Nat} {l : List Oper} {Q : Exit → St → Prop} (m : Nat) (hm : P.follows .mixedOrders = true) (hB : (Nat.blt m l.length && decide (l.length = m + g)) = true)
    (h : zL P cx l.toArray K (l.drop m) m g m (List.replicate l.length false) st) : aC P cx (.region id l.toArray true) (thenA K Q) st := by
  simp only [Bool.and_eq_true, Nat.blt_eq, decide_eq_true_eq] at hB
  obtain ⟨hlt, hlen⟩ := hB
  refine a_mono (Q := ThenK K) ?_ fun e st h => by cases e <;> first | exact h | exact h.elim
  intro a w hr
  refine wp_region_any hm ?_
  have inv0 : HeadInv .any l.toArray m (List.replicate l.length false).toArray :=
    by
    rw [List.toArray_replicate]
    exact ⟨by simp, fun j oj _ hl => (by rw [getD_replicate_false] at hl; cases hl), fun t _ ht => getD_in (by simpa using ht) (getD_replicate_false _ _)⟩
  have H := h inv0 a { w with drawn := w.drawn + 1 } (hr.mono ⟨rfl, rfl, rfl, Nat.le_refl _, fun _ _ => rfl⟩)
  have := any_of_grow (g := g) (fun listed a w hL => by
    have := wpAny_of_seq (md := .any) (Q' := lift cx (ThenK K)) (l.drop m) m listed a w (fun j => by simp [List.getElem?_drop]) (by rw [List.length_drop, show l.length - m = g by omega]; exact hL.1) hL.2
    rwa [List.length_drop, show l.length - m = g by omega] at this) _ _ _ _ H
  simpa [hlen] using this
/-! The makers. -/
variable {ty : TypeId} {pos : String} {af : Array Edge} {d nn m f i : Nat} {vars : List (Nat × AV)} {objs objs' : List AO} {listed : List Bool} {r : List Nat}
theorem g_alloc {T : TypeId} {z : Value} {sz by' : Nat} {l : List AV} (ht : MkT P T z sz by') (hl : (AV.val z).cells = l) (ho' : l.all AV.one = true) : GOp P ⟨some d, .alloc T, ty, pos, af, none⟩ d st (st.add (.box l)) (.ptr st.objs.length 0) := by
  have ho : ∀ a ∈ l, a.one = true := List.all_eq_true.1 ho'
  refine g_of rfl rfl fun _ ρ w a hb => ?_
  have hg : Gm ρ w (Ban ρ st.objs) (.val z) z := .val z
  obtain ⟨h1, h2, _⟩ := gm_cells hg hl ho
  have hbel : Below w.heap.size w (w.alloc (.cells z.cells T)) := (Below.refl _ _).alloc (Nat.le_refl _) _
  have happ := app_one hb.good (o := .box l) (v := .pointer (some ⟨w.heap.size, 0, none⟩)) hbel (fun b hb' => by cases hb'; exact Nat.le_refl _) fun hnew hM => ⟨w.heap.size, z.cells, T, hnew, heap_alloc_new w _, h1, fun i av' hi => by
    have hi' : i < z.cells.size := by rw [h1]; exact (List.getElem?_eq_some_iff.1 hi).1
    exact ⟨_, Array.getElem?_eq_getElem hi', (h2 i av' _ hi (Array.getElem?_eq_getElem hi')).ext (Same.of_below hbel _) (ext_app ρ _) hM⟩⟩
  refine ⟨.pointer (some ⟨w.heap.size, 0, none⟩), _, _, ?_, hbel, happ.1, happ.2.1, happ.2.2.1, happ.2.2.2, .ptr _ 0 _ [] (new_id hb.good.len _)⟩
  obtain ⟨i, hi, hz⟩ := ht.info
  simp [execOp, Instr.alloc, newVar, newRow, zeroValue, typeInfo, hi, hz.1]
theorem g_make {T e : TypeId} {sz by' : Nat} {z z0 : Value} {dt : Dat} {x y : Operand} {n : Int} (hx : st.ev x = .val (.int .i64 n)) (hy : st.ev y = .val (.int .i64 n)) (ht : SlT P T e sz) (hm : MkT P e z sz by') (h0 : 0 ≤ n)
    (hby : by' * n.toNat ≤ 281474976710656) (hpos : 0 < by') (hz : z.cells.toList = List.replicate sz z0) (hsz : 0 < sz) (hdt : ∀ w M, Rd w M z0 dt) :
    GOp P ⟨some d, .makeSlice T x y, ty, pos, af, none⟩ d st (st.add (.row e sz (List.replicate (n.toNat * sz) dt))) (.own st.objs.length) := by
  refine g_of rfl rfl fun _ ρ w a hb => ?_
  obtain ⟨i, hi, hz1, hsz1, hby1⟩ := hm.info
  have hn63 : n.toNat ≤ 281474976710656 := Nat.le_trans (Nat.le_mul_of_pos_left _ hpos) hby
  obtain ⟨N, rfl⟩ := Int.eq_ofNat_of_zero_le h0
  simp only [Int.toNat_natCast] at hby hn63
  have hrun := run_make (P := P) w T e i z ht.1 hi hz1 .i64 .i64 (N : Int) (N : Int) h0 (Int.le_refl _) (by rw [hby1, ← Int.natCast_mul]; exact Int.ofNat_le.2 hby) (by omega)
  have hbel : Below w.heap.size w (w.alloc (.cells (madeCells z.cells (N * i.size)) e)) := (Below.refl _ _).alloc (Nat.le_refl _) _
  simp only [Int.toNat_natCast] at hrun
  rw [hsz1] at hrun hbel
  have hl := madeCells_list z z0 sz N hz hsz
  have happ := app_one hb.good (o := .row e sz (List.replicate (N * sz) dt)) (v := .slice (some ⟨w.heap.size, 0, none⟩) N N) hbel (fun b hb' => by cases hb'; exact Nat.le_refl _) fun hnew _ =>
    sat_row hnew (ownsRow_new _ e sz N N (List.replicate (N * sz) z0) (by simp) (by rw [size_madeCells]) (Nat.le_refl _) (by unfold maxLen; omega) (by rw [hl]; simp)) (by simp) fun j dt' hj => by
      rw [List.getElem?_replicate] at hj
      split at hj
      · rename_i hj1
        obtain rfl := Option.some.inj hj
        exact ⟨z0, by rw [List.getElem?_replicate, if_pos hj1], hdt _ _⟩
      · cases hj
  refine ⟨.slice (some ⟨w.heap.size, 0, none⟩) N N, _, _, ?_, hbel, happ.1, happ.2.1, happ.2.2.1, happ.2.2.2, .own _ _ [] (new_id hb.good.len _) rfl⟩
  simp only [execOp, hb.evv hx, hb.evv hy, Sem.run_bind, hrun, Result.andThen_ok, Sem.run_pure]
/-- A call that makes new objects. -/
theorem g_call {g : Operand} {xs : Array Operand} {ats : Array TypeId} {f : FuncId} {caps args : List AV} {res : AV} {objs' : List AO} (hf : Callee' st g f caps) (hc : AC P f args [] res objs') (hv : VwL st.objs [] (evs st xs ++ caps) args)
    (hfl : Flat res) (hfo : ∀ o ∈ objs', FlatO o) : GOp P ⟨some d, .call ⟨.value g, xs, ats⟩, ty, pos, af, none⟩ d st ⟨st.n, st.vars, st.objs ++ objs'.map (AO.sh st.objs.length)⟩ (res.sh st.objs.length) := by
  refine ⟨rfl, rfl, fun _ ρ w a hb nx R hnx => ?_⟩
  obtain ⟨cs, h1, h2, h3⟩ := callee_val hb hf
  have ho : VwOs st.objs [] [] := ⟨rfl, List.nodup_nil, fun id' o' h => by simp at h⟩
  obtain ⟨h4, h5⟩ := args_gm hb h2 h3 ho hv
  unfold Oper.wp
  rw [exec_call hc.1 h1]
  refine (hc.2 (reId ρ []) w _ (hb.good.view ho) h4 h5).mono ?_
  rintro e w' ⟨u, ρ', rfl, hs, hg', hgm, _, hfr⟩
  have hbel := hs.below (fun x _ ⟨id, h⟩ => by obtain ⟨o, l, h6, _⟩ := h; simp at h6)
  have hfr' : ∀ b, Own ρ' objs' b → w.heap.size ≤ b := by
    intro b h
    rcases Nat.lt_or_ge b w.heap.size with hlt | hge
    · obtain ⟨id, o, l, h6, _⟩ := hfr b h hlt; simp at h6
    · exact hge
  have hlen := hb.good.len
  have hext : ∀ (id : Nat) l, ρ'[id]? = some l → (ρ ++ ρ')[st.objs.length + id]? = some l := by
    intro id l h
    rw [List.getElem?_append_right (by omega), hlen, Nat.add_sub_cancel_left]; exact h
  have hfnew : ∀ id b, st.objs.length ≤ id → foot (ρ ++ ρ') (st.objs ++ objs'.map (AO.sh st.objs.length)) id b → foot ρ' objs' (id - st.objs.length) b := by
    rintro id b hle ⟨o, l, h6, h7, h8, h9⟩
    rw [List.getElem?_append_right hle, List.getElem?_map] at h6
    obtain ⟨o0, h10, rfl⟩ := Option.map_eq_some_iff.1 h6
    rw [List.getElem?_append_right (by omega), hlen] at h8
    refine ⟨o0, l, h10, ?_, h8, h9⟩
    cases o0 <;> first | rfl | cases h7
  have happ := hb.good.app (w' := w') (ls := ρ') (os := objs'.map (AO.sh st.objs.length)) (Same.of_below hbel _) (fun b ⟨id, h⟩ => hbel.block b (foot_lt hb.good h)) (by simp [hg'.len])
    (fun id b h6 h7 => hfr' b ⟨_, hfnew id b h6 h7⟩) (fun i j b h6 h7 h8 h9 => by have := hg'.dis _ _ b (hfnew i b h6 h8) (hfnew j b h7 h9); omega) (fun i o hi => by
      rw [List.getElem?_map] at hi
      obtain ⟨o0, h10, rfl⟩ := Option.map_eq_some_iff.1 hi
      have hsat := hg'.sat i o0 h10
      have hflo := hfo o0 (List.mem_of_getElem? h10)
      cases hflo with
      | gone => trivial
      | mat e e' m => obtain ⟨v, us, a1, a2⟩ := hsat; exact ⟨v, us, hext _ _ a1, a2⟩
      | row e sz cs h =>
        obtain ⟨v, n, us, a1, a2, a3, a4⟩ := hsat
        refine ⟨v, n, us, hext _ _ a1, a2, a3, fun i dt hi => ?_⟩
        obtain ⟨u, hu, hr⟩ := a4 i dt hi
        obtain ⟨x, rfl⟩ := h dt (List.mem_of_getElem? hi)
        cases hr
        exact ⟨_, hu, .val _⟩
      | box l h =>
        obtain ⟨b, arr, T, a1, a2, a3, a4⟩ := hsat
        refine ⟨b, arr, T, hext _ _ a1, a2, by rw [shl_len]; exact a3, fun i av hi => ?_⟩
        rw [shl_get] at hi
        obtain ⟨av0, h11, rfl⟩ := Option.map_eq_some_iff.1 hi
        obtain ⟨v, hv, hgv⟩ := a4 i av0 h11
        exact ⟨v, hv, flat_gm hext (h av0 (List.mem_of_getElem? h11)) v hgv⟩)
  exact hnx _ _ _ hbel (Same.of_below hbel _) (ext_app ρ ρ') happ.2 happ.1 (flat_gm hext hfl u hgm)
/-! On states that stand written out. -/
theorem zw_q [Zs] (i : Nat) {op : Op} {av : AV} (hi : ops[i]? = some ⟨some d, op, ty, pos, af, none⟩)
    (hb : (Region.noSelect ops && Region.sinkB .any ops n && Region.chainB .any ops n && Nat.blt n ops.size && Nat.blt i n && Region.free .any ops listed.toArray i && (Region.ready .any ops listed.toArray).contains i && plainB op) = true)
    (hq : QOp P ⟨some d, op, ty, pos, af, none⟩ ⟨nn, vars, objs⟩ av) (hd : Nat.blt d nn = true) (h : zL P cx ops K l2 n g f (listed.set i true) ⟨nn, (d, av) :: vars, objs⟩) : zL P cx ops K l2 n g (f + 1) listed ⟨nn, vars, objs⟩ := z_q i hi hb hq hd h
theorem zw_nil [Zs] : zAll P cx ops K l2 n g f listed st [] := trivial
theorem zw_alloc [Zs] {T : TypeId} {z : Value} {sz by' : Nat} {l : List AV} (hi : ops[i]? = some ⟨some d, .alloc T, ty, pos, af, none⟩) (hin : Nat.blt i n = true) (ht : MkT P T z sz by') (hl : (AV.val z).cells = l) (h1 : l.all AV.one = true) (ho : objs ++ [.box l] = objs') (hm : objs.length = m) (hd : Nat.blt d nn = true)
    (hz : zL P cx ops K l2 n g f (listed.set i true) ⟨nn, (d, .ptr m 0) :: vars, objs'⟩) (hr : zAll P cx ops K l2 n g f listed ⟨nn, vars, objs⟩ r) : zAll P cx ops K l2 n g f listed ⟨nn, vars, objs⟩ (i :: r) := by
  subst ho; subst hm
  exact ⟨⟨_, _, _, _, _, _, _, hi, hin, g_alloc ht hl h1, hd, hz⟩, hr⟩
theorem zw_mk_nats [Zs] {T e : TypeId} {x y : Operand} {j : Int} {o : Nat} (hi : ops[i]? = some ⟨some d, .makeSlice T x y, ty, pos, af, none⟩) (hin : Nat.blt i n = true) (hx : (⟨nn, vars, objs⟩ : St).ev x = .val (.int .i64 j)) (hy : (⟨nn, vars, objs⟩ : St).ev y = .val (.int .i64 j)) (hj : j = (o : Int)) (ht : SlT P T e 1) (hmk : MkT P e (.int .i64 0) 1 8) (hbig : o ≤ 10000000000)
    (ho : objs ++ [.row e 1 (intc (nl (List.replicate o 0)))] = objs') (hm : objs.length = m) (hd : Nat.blt d nn = true)
    (hz : zL P cx ops K l2 n g f (listed.set i true) ⟨nn, (d, .own m) :: vars, objs'⟩) (hr : zAll P cx ops K l2 n g f listed ⟨nn, vars, objs⟩ r) : zAll P cx ops K l2 n g f listed ⟨nn, vars, objs⟩ (i :: r) := by
  subst ho; subst hm; subst hj
  refine ⟨⟨_, _, _, _, _, _, _, hi, hin, g_make (z0 := .int .i64 0) (dt := .val (.int .i64 0)) hx hy ht hmk (by omega) (by omega) (by decide) rfl (by decide) (fun _ _ => .val _), hd, ?_⟩, hr⟩
  rw [intc_rep, Int.toNat_natCast]
  rw [← nl_rep] at hz
  exact hz
theorem zw_call [Zs] {g' : Operand} {xs : Array Operand} {ats : Array TypeId} {fn : FuncId} {caps args : List AV} {res res0 res' : AV} {news news0 : List AO} (hi : ops[i]? = some ⟨some d, .call ⟨.value g', xs, ats⟩, ty, pos, af, none⟩) (hin : Nat.blt i n = true) (hf : Callee' ⟨nn, vars, objs⟩ g' fn caps) (hc : AC P fn args [] res0 news0) (h0 : res0 = res) (h1 : news0 = news)
    (hv : VwL objs [] (evs ⟨nn, vars, objs⟩ xs ++ caps) args) (hfl : flatB res = true) (hfo : FlatOs news) (ho : objs ++ news.map (AO.sh objs.length) = objs') (hr' : res.sh objs.length = res') (hd : Nat.blt d nn = true)
    (hz : zL P cx ops K l2 n g f (listed.set i true) ⟨nn, (d, res') :: vars, objs'⟩) (hr : zAll P cx ops K l2 n g f listed ⟨nn, vars, objs⟩ r) : zAll P cx ops K l2 n g f listed ⟨nn, vars, objs⟩ (i :: r) := by
  subst h0; subst h1; subst ho; subst hr'
  exact ⟨⟨_, _, _, _, _, _, _, hi, hin, g_call hf hc hv (flat_of hfl) (flatOs_spec hfo), hd, hz⟩, hr⟩
end
end Go.Proofs.Ythchhaaplimafaa
