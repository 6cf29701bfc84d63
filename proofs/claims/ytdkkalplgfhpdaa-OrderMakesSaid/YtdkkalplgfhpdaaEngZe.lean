/- A slice held against nil; literals among operations that draw their order; a literal of nothing; what is read, put behind what is one's own. -/
import Derived.Test.YtdkkalplgfhpdaaEngZd
set_option linter.unusedSimpArgs false
set_option linter.unusedVariables false
set_option linter.unusedSectionVars false
namespace Go.Proofs.Ytdkkalplgfhpdaa
open Go.RowKit
theorem run_eqnil {P : Program} (w : World) (d : Nat) (t e : TypeId) (a : Option Addr) (l c : Nat) (h : P.underlying t = some (.slice e)) : (Op.equalIn (d + 1) t (.slice a l c) (.slice none 0 0)).run P w = .ok a.isNone w := by
  cases a <;> simp [Op.equalIn, run_underlying h]
theorem run_eqnil' {P : Program} (w : World) (t e : TypeId) (a : Option Addr) (l c : Nat) (h : P.underlying t = some (.slice e)) : (Op.equal t (.slice a l c) (.slice none 0 0)).run P w = .ok a.isNone w := run_eqnil w 9999 t e a l c h
section
variable {P : Program} {k : Nat} {cx : Cx k} {ops : Array Oper} {Q : Exit → St → Prop} {st : St} {rest : List Oper} {ty : TypeId} {pos : String} {af : Array Edge}
theorem g_lit {d : Tmp} {T e : TypeId} {sz by' n : Nat} {z : Value} {parts : Array (Nat × Operand)} {xs : List Operand} {cs : List Dat} (hp : parts = (enumP 0 xs).toArray) (hn : xs.length = n) (ht : SlT P T e sz) (hm : MkT P e z sz by')
    (hsz : 0 < sz) (hbig : Nat.ble (n * sz) 16777216 = true) (hcs : PartD st sz xs cs) : GOp P ⟨some d, .buildSlice T n parts, ty, pos, af, none⟩ d st (st.add (.row e sz cs)) (.own st.objs.length) := by
  refine g_of rfl rfl fun _ ρ w a hb => ?_
  subst hp; subst hn
  obtain ⟨i, hi, hz1, hsz1, hby1⟩ := hm.info
  obtain ⟨h1, h2, h3, h4⟩ := partD_spec hb sz xs cs hcs
  have hbig' : xs.length * sz ≤ 16777216 := Nat.le_of_ble_eq_true hbig
  have hnb : ¬ (xs.length * sz > 2 ^ 24) := by omega
  generalize hzc : ((if xs.length * sz = 0 then (#[] : Array Value) else z.cells)) = zc
  have hfill := run_fillSlice sz (xs.map a.eval) 0 ((Array.range (xs.length * sz)).map (zc[· % zc.size]!)) xs a.eval rfl h1 (by simp)
  simp only [Nat.zero_mul, List.take_zero, List.nil_append, Nat.zero_add, List.length_map] at hfill
  rw [show List.drop (xs.length * sz) ((Array.range (xs.length * sz)).map (zc[· % zc.size]!)).toList = [] from List.drop_eq_nil_of_le (by simp), List.append_nil] at hfill
  generalize hcells : (xs.map a.eval).flatMap (fun v => v.cells.toList) = cells at hfill h2 h4
  have hbel : Below w.heap.size w (w.alloc (.cells cells.toArray e)) := (Below.refl _ _).alloc (Nat.le_refl _) _
  have happ := app_one hb.good (o := .row e sz cs) (v := .slice (some ⟨w.heap.size, 0, none⟩) xs.length xs.length) hbel (fun b hb' => by cases hb'; exact Nat.le_refl _) fun hnew hM =>
    sat_row hnew (ownsRow_new _ e sz xs.length xs.length cells (by omega) (by simp; omega) (Nat.le_refl _) (by
      have : xs.length ≤ xs.length * sz := Nat.le_mul_of_pos_right _ hsz
      unfold maxLen; omega) (by simp [← h3, ← h2])) h2 fun j dt hj => by
        obtain ⟨u, hu, hr, _⟩ := h4 j dt hj
        exact ⟨u, hu, hr.mono (Same.of_below hbel _) (Ban.mono hM)⟩
  refine ⟨.slice (some ⟨w.heap.size, 0, none⟩) xs.length xs.length, _, _, ?_, hbel, happ.1, happ.2.1, happ.2.2.1, happ.2.2.2, .own _ _ [] (new_id hb.good.len _) rfl⟩
  have hmap : ((enumP 0 xs).toArray.map fun p => (p.1, a.eval p.2)).toList = (enumP 0 xs).map fun p => (p.1, a.eval p.2) := by simp
  have hmap' : ∀ g : Nat × Operand → Nat × Value, (∀ p, g p = (p.1, a.eval p.2)) → ((enumP 0 xs).toArray.map g).toList = (enumP 0 xs).map fun p => (p.1, a.eval p.2) := by
    intro g hg
    rw [show g = fun p => (p.1, a.eval p.2) from funext hg]
    exact hmap
  have hbs : ∀ ps : Array (Nat × Value), ps.toList = (enumP 0 xs).map (fun p => (p.1, a.eval p.2)) → (Instr.buildSlice T xs.length ps).run P w = .ok (.slice (some ⟨w.heap.size, 0, none⟩) xs.length xs.length) (w.alloc (.cells cells.toArray e)) := by
    intro ps hps
    simp only [Instr.buildSlice, Sem.run_bind, run_underlying ht.1, Result.andThen_ok, ht.2.run, if_neg hnb, hps]
    by_cases h0 : xs.length * sz = 0
    · rw [if_pos h0] at hzc ⊢
      subst hzc
      simp only [Sem.run_bind, Sem.run_pure, Result.andThen_ok, hfill]
      rfl
    · rw [if_neg h0] at hzc ⊢
      subst hzc
      simp only [Sem.run_pure, Result.andThen_ok, Sem.run_bind, zeroValue, typeInfo, run_program, hi, hz1, hfill]
      rfl
  simp only [execOp, Sem.run_bind, hbs _ (hmap' _ (fun _ => rfl)), Result.andThen_ok, Sem.run_pure]
end
section
variable {P : Program} {k : Nat} {cx : Cx k} {ops : Array Oper} {Q : Exit → St → Prop} {K : St → Prop} {l2 : List Oper} {rest : List Oper} {ty : TypeId} {pos : String} {af : Array Edge} {d nn m n g f i : Nat} {vars : List (Nat × AV)} {objs objs' : List AO} {listed : List Bool} {r : List Nat}
theorem a_growQ [Zs] {id : Nat} {l : List Oper} {st : St} (m : Nat) (hm : P.follows .mixedOrders = true) (hB : (Nat.blt m l.length && decide (l.length = m + g)) = true)
    (h : zL P cx l.toArray (fun st => Q .normal st) (l.drop m) m g m (List.replicate l.length false) st) : aC P cx (.region id l.toArray true) Q st :=
  a_mono (a_grow (Q := Q) m hm hB h) fun e st h => by cases e <;> exact h
theorem P_max {st : St} {x y : Operand} {m n : Int} {cl : Callee} {ats : Array TypeId} {dd : Option Tmp} {gg : Option (Nat × Bool)} (hcl : cl = .builtin .max) (hx : st.ev x = .val (.int .i64 m)) (hy : st.ev y = .val (.int .i64 n)) :
    POp P ⟨dd, .call ⟨cl, #[x, y], ats⟩, ty, pos, af, gg⟩ st (.val (.int .i64 (max m n))) := fun _ ρ w a hr => ⟨_, .val _, fun w1 => by
    subst hcl
    have : (if n > m then n else m) = max m n := by omega
    simp [execOp, resolve, invoke, builtin, hr.evv hx, hr.evv hy, Builtin.max_, Builtin.max2, this]⟩
theorem P_min {st : St} {x y : Operand} {m n : Int} {cl : Callee} {ats : Array TypeId} {dd : Option Tmp} {gg : Option (Nat × Bool)} (hcl : cl = .builtin .min) (hx : st.ev x = .val (.int .i64 m)) (hy : st.ev y = .val (.int .i64 n)) :
    POp P ⟨dd, .call ⟨cl, #[x, y], ats⟩, ty, pos, af, gg⟩ st (.val (.int .i64 (min m n))) := fun _ ρ w a hr => ⟨_, .val _, fun w1 => by
    subst hcl
    have : (if n < m then n else m) = min m n := by omega
    simp [execOp, resolve, invoke, builtin, hr.evv hx, hr.evv hy, Builtin.min_, Builtin.min2, this]⟩
/-- One that takes no memory goes first. -/
theorem zw_p [Zs] (i : Nat) {op : Op} {av : AV} (hi : ops[i]? = some ⟨some d, op, ty, pos, af, none⟩)
    (hb : (Region.noSelect ops && Region.sinkB .any ops n && Region.chainB .any ops n && Nat.blt n ops.size && Nat.blt i n && Region.free .any ops listed.toArray i && (Region.ready .any ops listed.toArray).contains i) = true)
    (hq : POp P ⟨some d, op, ty, pos, af, none⟩ ⟨nn, vars, objs⟩ av) (hd : Nat.blt d nn = true) (h : zL P cx ops K l2 n g f (listed.set i true) ⟨nn, (d, av) :: vars, objs⟩) : zL P cx ops K l2 n g (f + 1) listed ⟨nn, vars, objs⟩ := by
  simp only [Bool.and_eq_true, Nat.blt_eq] at hb
  obtain ⟨⟨⟨⟨⟨⟨b1, b2⟩, b3⟩, b4⟩, b5⟩, b6⟩, b7⟩ := hb
  intro inv a w hr
  obtain ⟨ρ, hb, hf, h0⟩ := hr.base
  obtain ⟨v, hg, hv⟩ := hq _ ρ w a hb
  have hr' : i ∈ Region.ready .any ops listed.toArray := by simpa using b7
  refine anyGrow_first hi (Region.noSelect_spec b1) b2 b3 b4 b5 (fun listed a w hL => seqB_ready hL.1) (fun c a w hp => ?_) f listed.toArray a w inv (Region.free_spec hi b6) hr' (v := v)
    (.inl ⟨by simp [Region.wanted], fun w1 _ => hv w1⟩) (Below.refl _ _) ?_
  · obtain ⟨st', h1, _⟩ := hp
    exact h1.elim
  · have e : listed.toArray.setIfInBounds i true = (listed.set i true).toArray := by simp
    rw [e]
    exact h (by rw [← e]; exact inv.set hr' b5) _ _ ⟨⟨ρ, hb.put (st := ⟨nn, vars, objs⟩) hd hg, hf, h0⟩, hr.same⟩
theorem zw_lit_n [Zs] {T e : TypeId} {x : Operand} {v : Nat} (hi : ops[i]? = some ⟨some d, .buildSlice T 1 #[(0, x)], ty, pos, af, none⟩) (hin : Nat.blt i n = true) (hx : (⟨nn, vars, objs⟩ : St).ev x = .val (.int .i64 (v : Int))) (ht : SlT P T e 1) (hmk : MkT P e (.int .i64 0) 1 8)
    (ho : objs ++ [.row e 1 (intc (nl [v]))] = objs') (hm : objs.length = m) (hd : Nat.blt d nn = true)
    (hz : zL P cx ops K l2 n g f (listed.set i true) ⟨nn, (d, .own m) :: vars, objs'⟩) (hr : zAll P cx ops K l2 n g f listed ⟨nn, vars, objs⟩ r) : zAll P cx ops K l2 n g f listed ⟨nn, vars, objs⟩ (i :: r) := by
  subst ho; subst hm
  exact ⟨⟨_, _, _, _, _, _, _, hi, hin, g_lit (xs := [x]) rfl rfl ht hmk (by decide) (by decide) (ints_part (l := nl [v]) ⟨hx, trivial⟩), hd, hz⟩, hr⟩
theorem zw_lit_i [Zs] {T e : TypeId} {x : Operand} {v : Int} (hi : ops[i]? = some ⟨some d, .buildSlice T 1 #[(0, x)], ty, pos, af, none⟩) (hin : Nat.blt i n = true) (hx : (⟨nn, vars, objs⟩ : St).ev x = .val (.int .i64 v)) (ht : SlT P T e 1) (hmk : MkT P e (.int .i64 0) 1 8)
    (ho : objs ++ [.row e 1 (intc [v])] = objs') (hm : objs.length = m) (hd : Nat.blt d nn = true)
    (hz : zL P cx ops K l2 n g f (listed.set i true) ⟨nn, (d, .own m) :: vars, objs'⟩) (hr : zAll P cx ops K l2 n g f listed ⟨nn, vars, objs⟩ r) : zAll P cx ops K l2 n g f listed ⟨nn, vars, objs⟩ (i :: r) := by
  subst ho; subst hm
  exact ⟨⟨_, _, _, _, _, _, _, hi, hin, g_lit (xs := [x]) rfl rfl ht hmk (by decide) (by decide) (ints_part (l := [v]) ⟨hx, trivial⟩), hd, hz⟩, hr⟩
theorem w_eqnil [Zs] {T e T' : TypeId} {sz sz' : Nat} {x y : Operand} {cs : List Dat} (hx : (⟨nn, vars, objs⟩ : St).ev x = .ro (.sl sz cs)) (hy : (⟨nn, vars, objs⟩ : St).ev y = .val (.slice none 0 0)) (ht : SlT P T e sz') (hd : Nat.blt d nn = true)
    (hk : ∀ b : Bool, (b = true → cs = []) → aL P cx ops Q rest ⟨nn, (d, .val (.bool b)) :: vars, objs⟩) : aL P cx ops Q (⟨some d, .binOp .eql T x y T', ty, pos, af, none⟩ :: rest) ⟨nn, vars, objs⟩ := by
  intro a w hr
  obtain ⟨ρ, hb, hf, h0⟩ := hr.base
  have hg := hb.ev x
  rw [hx] at hg
  have hrd := hg.ro_inv
  have hey := hb.evv hy
  have key : ∃ b : Bool, (b = true → cs = []) ∧ (execOp a.eval ⟨some d, .binOp .eql T x y T', ty, pos, af, none⟩).run P w = .ok (.value (.bool b)) w := by
    have hgd : ∀ (ad : Option Addr) (n' c : Nat), (eqGuard .eql T x y (.slice ad n' c) (.slice none 0 0)).run P w = .ok () w := fun ad n' c => rfl
    have hbin : ∀ (ad : Option Addr) (n' c : Nat), (binOp .eql T (.slice ad n' c) (.slice none 0 0)).run P w = .ok (.bool ad.isNone) w := fun ad n' c => by
      show (do pure (Value.bool (← Op.equal T (.slice ad n' c) (.slice none 0 0)))).run P w = _
      rw [Sem.run_bind, run_eqnil' w T e ad n' c ht.1]
      rfl
    generalize hu : a.eval x = u at hrd
    cases hrd with
    | nil =>
      refine ⟨true, fun _ => rfl, ?_⟩
      simp only [execOp, hu, hey, Sem.run_bind, hgd, Result.andThen_ok, hbin, Sem.run_pure]
      rfl
    | sl ad n' cap _ _ us hn hsp hM hc hr' =>
      refine ⟨false, fun h => (by cases h), ?_⟩
      simp only [execOp, hu, hey, Sem.run_bind, hgd, Result.andThen_ok, hbin, Sem.run_pure]
      rfl
  obtain ⟨b, hb1, hrun⟩ := key
  unfold wpList
  rw [if_pos (by simp [Region.wanted])]
  left
  unfold Oper.wp
  rw [hrun]
  exact hk b hb1 _ _ ⟨⟨ρ, hb.put hd (.val _), hf, h0⟩, hr.same⟩
theorem w_lit_e [Zs] {T e : TypeId} {z : Value} {sz by' : Nat} (hsz : 0 < sz) (ht : SlT P T e sz) (hmk : MkT P e z sz by') (ho : objs ++ [.row e sz []] = objs') (hm : objs.length = m) (hd : Nat.blt d nn = true)
    (hk : aL P cx ops Q rest ⟨nn, (d, .own m) :: vars, objs'⟩) : aL P cx ops Q (⟨some d, .buildSlice T 0 #[], ty, pos, af, none⟩ :: rest) ⟨nn, vars, objs⟩ := by
  subst ho; subst hm
  exact l_lit (xs := []) rfl rfl ht hmk hsz (by simp) rfl hd hk
theorem w_ap_natsR [Zs] {T e : TypeId} {x y : Operand} {id : Nat} {l r : List Nat} (hx : (⟨nn, vars, objs⟩ : St).ev x = .own id) (hob : objs[id]? = some (.row e 1 (intc (nl l)))) (hy : (⟨nn, vars, objs⟩ : St).ev y = ints (nl r))
    (ht : SlT P T e 1) (hmk : MkT P e (.int .i64 0) 1 8) (hbig : l.length + r.length ≤ 1000000000) (ho : objs.set id .gone ++ [.row e 1 (intc (nl (l ++ r)))] = objs') (hm : objs.length = m) (hd : Nat.blt d nn = true)
    (hk : aL P cx ops Q rest ⟨nn, (d, .own m) :: vars, objs'⟩) : aL P cx ops Q (⟨some d, .call ⟨.builtin .append, #[x, y], #[T, T]⟩, ty, pos, af, none⟩ :: rest) ⟨nn, vars, objs⟩ := by
  subst ho; subst hm
  exact l_append (cs := intc (nl l)) (cs2 := intc (nl r)) rfl rfl hx hob (.inl hy) ht hmk rfl (intc_len _) (intc_len _) (by decide) (intc_one _) (by decide) (by rw [nl_len, nl_len]; omega) hd (by rw [intc_app, nl_app]; exact hk)
end
end Go.Proofs.Ytdkkalplgfhpdaa
