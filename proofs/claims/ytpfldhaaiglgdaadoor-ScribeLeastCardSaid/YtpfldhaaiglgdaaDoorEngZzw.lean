import Derived.Test.YtpfldhaaiglgdaaDoorEngZr
import Derived.Test.YtpfldhaaiglgdaaDoorEngZzv
import Derived.Defers
import Derived.Recover
import Derived.WalkSmall
set_option linter.unusedSimpArgs false
set_option linter.unusedVariables false
set_option linter.unusedSectionVars false
namespace Go.Proofs.YtpfldhaaiglgdaaDoor
open Go.RowKit
/-! Code that runs while deferred calls wait. -/
def liftK [Zs] {k : Nat} (cx : Cx k) (D : List Deferred) (Q : Exit → St → Prop) : Exit → Act → World → Prop := fun e a w => ∃ a0 st, a = apD a0 D ∧ Q e st ∧ Rel cx st a0 w
def aK [Zs] (P : Program) {k : Nat} (cx : Cx k) (D : List Deferred) (c : Code) (Q : Exit → St → Prop) (st : St) : Prop :=
  ∀ a w, Rel cx st a w → c.wp P (liftK cx D Q) (apD a D) w
theorem upon_ap {P : Program} {o : Oper} {a : Act} {D : List Deferred} {next next' : Act → World → Prop} {Q Q' : Exit → Act → World → Prop} (hq : ¬ LetsOut Q)
    (hn : ∀ a w, next a w → next' (apD a D) w) (hQ : ∀ c a w, Q (.panic c) a w → Q' (.panic c) (apD a D) w) {r : Result Next} (h : o.upon P a next Q r) : o.upon P (apD a D) next' Q' r := by
  cases r with
  | ok x w' =>
    cases x with
    | value v => have := hn _ _ h; rw [apD_put] at this; exact this
    | skip => have := hn _ _ h; rw [apD_put] at this; exact this
    | defer d => have := hn _ _ h; rw [apD_put] at this; exact this
    | enter f args =>
      refine Calls.mono h ?_
      intro e w'' he
      cases e with
      | returned v => have := hn _ _ he; rw [apD_put] at this; exact this
      | panicked chain => exact hQ _ _ _ he
      | outgrown => exact absurd he hq
    | row row args =>
      refine Rows.mono h ?_
      intro v w'' he
      have := hn _ _ he
      rw [apD_put] at this
      exact this
    | _ => exact h.elim
  | halt x w' =>
    cases x with
    | panic v => exact hQ _ _ _ h
    | _ => exact h.elim
theorem list_ap {P : Program} {ops : Array Oper} {Q Q' : Exit → Act → World → Prop} (hq : ¬ LetsOut Q) (D : List Deferred) (hQ : ∀ e a w, Q e a w → Q' e (apD a D) w) :
    ∀ (l : List Oper), (∀ o ∈ l, ∀ c, o.op ≠ .defer c) → ∀ a w, wpList P ops Q l a w → wpList P ops Q' l (apD a D) w
  | [], _, a, w, h => hQ .normal a w h
  | o :: l, ho, a, w, h => by
    have ih := list_ap (P := P) (ops := ops) hq D hQ l fun o' h' => ho o' (List.mem_cons_of_mem _ h')
    unfold wpList at h
    unfold wpList
    show if Region.wanted o (yielded ops a.tmps) = true then _ else _
    split at h
    · rename_i hw
      rw [if_pos hw]
      rcases h with h | ⟨_, h⟩
      · left
        have e : (execOp (apD a D).eval o) = execOp a.eval o := rfl
        unfold Oper.wp at h ⊢
        rw [e]
        exact upon_ap hq ih (fun c a w h => hQ _ a w h) h
      · exact absurd h hq
    · rename_i hw
      rw [if_neg hw]
      have := ih _ _ h
      rw [apD_put] at this
      exact this
section
variable {P : Program} {k : Nat} {cx : Cx k} {D : List Deferred} {Q : Exit → St → Prop} {st : St}
theorem k_skip [Zs] (h : Q .normal st) : aK P cx D .skip Q st := fun a _ hr => wp_skip ⟨a, st, rfl, h, hr⟩
theorem k_ret [Zs] (h : Q .ret st) : aK P cx D .ret Q st := fun a _ hr => wp_ret ⟨a, st, rfl, h, hr⟩
theorem k_exit [Zs] {id : Nat} (h : Q (.exit id) st) : aK P cx D (.exit id) Q st := fun a _ hr => wp_exit ⟨a, st, rfl, h, hr⟩
theorem k_seq [Zs] {x y : Code} (h : aK P cx D x (thenA (fun st => aK P cx D y Q st) Q) st) : aK P cx D (.seq x y) Q st := by
  intro a w hr
  refine wp_seq (wp_mono (h a w hr) ?_)
  rintro e a' w' ⟨a0, st', rfl, q, r⟩
  cases e with
  | normal => exact q a0 w' r
  | _ => exact ⟨a0, st', rfl, q, r⟩
theorem k_cond [Zs] {c : Operand} {x y : Code} {b : Bool} (hc : st.ev c = .val (.bool b)) (ht : b = true → aK P cx D x Q st) (hf : b = false → aK P cx D y Q st) :
    aK P cx D (.cond c x y) Q st := by
  intro a w hr
  have hv : (apD a D).eval c = .bool b := by
    obtain ⟨ρ, hb, _⟩ := hr.base
    exact hb.evv hc
  cases b with
  | true => exact wp_cond_true hv (ht rfl a w hr)
  | false => exact wp_cond_false hv (hf rfl a w hr)
theorem k_block [Zs] {id : Nat} {c : Code} (h : aK P cx D c (blockA id Q) st) : aK P cx D (.block id c) Q st := by
  intro a w hr
  refine wp_block (wp_mono (h a w hr) ?_)
  rintro e a' w' ⟨a0, st', rfl, q, r⟩
  cases e with
  | exit id' =>
    simp only [blockA] at q
    simp only [Exit.inBlock]
    by_cases h : id' = id
    · subst h; rw [if_pos rfl]; simp at q; exact ⟨a0, st', rfl, q, r⟩
    · rw [if_neg h]
      have hb : Nat.beq id' id = false := by
        cases hb : Nat.beq id' id
        · rfl
        · exact absurd (Nat.eq_of_beq_eq_true hb) h
      rw [hb] at q
      exact ⟨a0, st', rfl, q, r⟩
  | _ => exact ⟨a0, st', rfl, q, r⟩
theorem k_region [Zs] {id : Nat} {l : List Oper} (hd : noD l = true) (hq : ∀ st, ¬ Q .outgrown st) (h : aL P cx l.toArray Q l st) : aK P cx D (.region id l.toArray false) Q st := by
  intro a w hr
  refine wp_region_lit ?_
  exact list_ap (Q := lift cx Q) (no_out hq) D (fun e a w ⟨st', q, r⟩ => ⟨a, st', rfl, q, r⟩) l (noD_spec hd) a w (h a w hr)
theorem k_loop [Zs] {c : Code} {X : Type} (inv : X → St) (I : X → Prop) (μ : X → Nat) (x0 : X) (σ0 : List Nat) (h0 : I x0) (hle : st.le (inv x0) σ0) (hσ : fixB k σ0 = true)
    (round : ∀ x, I x → aK P cx D c (thenA (Hand (k := k) X inv I μ (μ x)) Q) (inv x)) : aK P cx D (.loop c) Q st := by
  intro a w hr
  refine wp_loop_ghost (fun n a w => ∃ x a0, a = apD a0 D ∧ μ x = n ∧ I x ∧ Rel cx (inv x) a0 w) (μ x0) ⟨x0, a, rfl, rfl, h0, hr.le hle hσ⟩ ?_
  rintro n a w ⟨x, a0, rfl, rfl, hI, hrel⟩
  refine wp_mono (round x hI a0 w hrel) ?_
  rintro e a' w' ⟨a1, st', rfl, q, r⟩
  cases e with
  | normal =>
    obtain ⟨x', σ, h1, h2, h3, h4⟩ := q
    exact ⟨μ x', h2, x', a1, rfl, rfl, h1, r.le h3 h4⟩
  | _ => exact ⟨a1, st', rfl, q, r⟩
end
section
variable {P : Program} {k : Nat} {cx : Cx k} {D : List Deferred} {Q : Exit → St → Prop} {n : Nat} {vars : List (Nat × AV)} {objs : List AO}
theorem k_wloop [Zs] {c : Code} {X : Type} (keep : List Nat) {vars0 : List (Nat × AV)} (hv : keepv keep vars = vars0) (mv : X → List (Nat × AV)) (ob : X → List AO) (I : X → Prop) (μ : X → Nat) (x0 : X) (σ0 : List Nat) (h0 : I x0)
    (hle : St.le ⟨n, vars, objs⟩ ⟨n, mv x0 ++ vars0, ob x0⟩ σ0) (hσ : fixB k σ0 = true)
    (round : ∀ x, I x → aK P cx D c (thenA (Hand (k := k) X (fun x => ⟨n, mv x ++ vars0, ob x⟩) I μ (μ x)) Q) ⟨n, mv x ++ vars0, ob x⟩) : aK P cx D (.loop c) Q ⟨n, vars, objs⟩ :=
  have _ := hv
  k_loop (fun x => ⟨n, mv x ++ vars0, ob x⟩) I μ x0 σ0 h0 hle hσ round
end
/-! Calls that panic. -/
def pan (v : Value) : List PanicEntry := [{ v := v, recovered := false }]
/-- A call of f with args, beside objs that it may write, ends in the panic v; it touches nothing else that was there. -/
def APn (P : Program) (f : FuncId) (args : List AV) (objs : List AO) (v : Value) : Prop :=
  Enters P f ∧ ∀ [Zs] (ρ : Ids) (w : World) (vs : Array Value), Good ρ w objs → vs.size = args.length → (∀ (i : Nat) (av : AV) (v : Value), args[i]? = some av → vs[i]? = some v → Gm ρ w (Ban ρ objs) av v) →
    Calls P f vs w fun e w' => e = .panicked (pan v) ∧ Same (Own ρ objs) w w'
/-- The walk ends in the panic v. -/
def panA (v : Value) : Exit → St → Prop
  | .panic c, _ => c = pan v
  | _, _ => False
theorem APn.mk {P : Program} {f : FuncId} {fn : Func} {c : Code} {n : Nat} {args : List AV} {objs : List AO} {v : Value}
    (hf : P.funcs[f]? = some fn) (hnm : (fn.name == "runtime.NumGoroutine") = false) (hb : fn.body = some c) (hn : fn.ntmps = n) (hle' : Nat.ble args.length n = true)
    (h : ∀ [Zs] (cx : Cx objs.length), aC P cx c (panA v) ⟨n, argv 0 args, objs⟩) : APn P f args objs v := by
  refine ⟨⟨fn, hf, hnm, by rw [hb]; rfl⟩, ?_⟩
  have hle : args.length ≤ n := Nat.le_of_ble_eq_true hle'
  intro _ ρ w vs hg hsz hargs
  refine calls_of_wp hf hb ?_
  have hrel : Rel (⟨w, Own ρ objs, ρ, hg.len⟩ : Cx objs.length) ⟨n, argv 0 args, objs⟩ { tmps := vs ++ Array.replicate (fn.ntmps - vs.size) undef, defers := [] } w := by
    refine ⟨⟨ρ, ⟨fun t => ?_, by simp; omega, rfl, hg⟩, fun id b hfo _ => ⟨id, hfo⟩, fun _ _ h => h⟩, Same.refl _ _⟩
    show Gm ρ w (Ban ρ objs) (getv (argv 0 args) t) _
    rw [getv_argv, if_pos (Nat.zero_le _)]
    by_cases ht : t < args.length
    · have h1 : args[t]? = some args[t] := List.getElem?_eq_getElem ht
      have ht' : t < vs.size := by omega
      have h2 : vs[t]? = some vs[t] := Array.getElem?_eq_getElem ht'
      have h3 : (vs ++ Array.replicate (fn.ntmps - vs.size) undef).getD t undef = vs[t] := by simp [ht', Array.getElem?_append]
      rw [h3]
      simp only [Nat.sub_zero, List.getD_eq_getElem?_getD, h1, Option.getD_some]
      exact hargs t _ _ h1 h2
    · have : args.getD (t - 0) AV.any = .any := by simp; rw [List.getElem?_eq_none (by omega)]; rfl
      rw [this]
      exact .any _
  refine wp_mono (h _ _ _ hrel) ?_
  intro e a w' ⟨st, hq, ⟨ρ1, hb1, hf1, h01⟩, hs1⟩
  cases e with
  | panic ch =>
    obtain rfl : ch = pan v := hq
    exact ⟨hb1.defers, rfl, hs1⟩
  | _ => exact hq.elim
section
variable {P : Program} {k : Nat} {cx : Cx k} {ops : Array Oper} {Q : Exit → St → Prop} {st : St} {rest : List Oper} {ty : TypeId} {pos : String} {af : Array Edge} {d : Option Tmp}
/-- A call without objects that panics. -/
theorem l_callP0 [Zs] {g : Operand} {xs : Array Operand} {ats : Array TypeId} {f : FuncId} {vs : List Value} {v : Value} (hc : APn P f (vs.map .val) [] v) (hg : st.ev g = .val (.func (.func f) #[] #[])) (hv : evs st xs = vs.map .val)
    (hk : Q (.panic (pan v)) st) : aL P cx ops Q (⟨d, .call ⟨.value g, xs, ats⟩, ty, pos, af, none⟩ :: rest) st := by
  intro a w hr
  obtain ⟨ρ, hb, hf, h0⟩ := hr.base
  unfold wpList
  rw [if_pos (by simp [Region.wanted])]
  left
  unfold Oper.wp
  rw [exec_call hc.1 (cs := #[]) (hb.evv hg)]
  have hg0 : Good [] w [] := ⟨rfl, fun id o h => (by simp at h), fun i j b h => (by obtain ⟨o, l, h1, _⟩ := h; simp at h1), fun id b h => (by obtain ⟨o, l, h1, _⟩ := h; simp at h1), hb.good.zl, ⟨fun p _ h => (by obtain ⟨i, o, l, h1, _⟩ := h; simp at h1), hb.good.tt.tl, hb.good.tt.tb⟩⟩
  have hxs : xs.size = vs.length := by
    have : (evs st xs).length = (vs.map AV.val).length := by rw [hv]
    simpa [evs] using this
  refine (hc.2 (ρ := []) w _ hg0 (by simp [hxs]) fun i av u hi hu => ?_).mono ?_
  · rw [List.getElem?_map] at hi
    obtain ⟨u0, hi0, rfl⟩ := Option.map_eq_some_iff.1 hi
    have hil := (List.getElem?_eq_some_iff.1 hi0).1
    have e1 : (evs st xs)[i]? = some (.val u0) := by rw [hv, List.getElem?_map, hi0]; rfl
    have e2 : (evs st xs)[i]? = some (st.ev (xs[i]'(by omega))) := by simp [evs, show i < xs.size by omega]
    have e3 : st.ev (xs[i]'(by omega)) = .val u0 := Option.some.inj (e2.symm.trans e1)
    have e4 : u = a.eval (xs[i]'(by omega)) := by
      rw [Array.append_empty] at hu
      simp [show i < xs.size by omega] at hu
      exact hu.symm
    rw [e4, hb.evv e3]
    exact .val _
  · rintro e w' ⟨rfl, hs⟩
    have hno : ∀ b, ¬ Own [] ([] : List AO) b := fun b ⟨i, o, l, h1, _⟩ => by simp at h1
    refine ⟨st, hk, ?_⟩
    exact hr.mono ⟨hs.os, hs.tape, hs.output, hs.size, fun b hb => hs.block b hb (hno b)⟩
/-- A call of a method of a box that holds values alone, that panics: the box is given up. -/
theorem l_callP1 [Zs] {g : Operand} {xs : Array Operand} {ats : Array TypeId} {f : FuncId} {i : Nat} {cs us : List Value} {v : Value} (hc : APn P f (.ptr 0 0 :: us.map .val) [.box (cs.map .val)] v) (hg : st.ev g = .val (.func (.func f) #[] #[]))
    (hv : evs st xs = .ptr i 0 :: us.map .val) (ho : st.objs[i]? = some (.box (cs.map .val)))
    (hk : Q (.panic (pan v)) (st.set i .gone)) : aL P cx ops Q (⟨d, .call ⟨.value g, xs, ats⟩, ty, pos, af, none⟩ :: rest) st := by
  intro a w hr
  obtain ⟨ρ, hb, hf, h0⟩ := hr.base
  obtain ⟨b, arr, T, h1, h2, h3, h4⟩ := hb.good.sat i _ ho
  have hid := (List.getElem?_eq_some_iff.1 ho).1
  have hfb : foot ρ st.objs i b := ⟨_, _, ho, rfl, h1, _, List.mem_cons_self .., rfl⟩
  unfold wpList
  rw [if_pos (by simp [Region.wanted])]
  left
  unfold Oper.wp
  rw [exec_call hc.1 (cs := #[]) (hb.evv hg)]
  have hft : ∀ {j x}, foot [[.pointer (some ⟨b, 0, none⟩)]] [AO.box (cs.map .val)] j x → j = 0 ∧ x = b := by
    rintro j x ⟨o, l, e1, _, e3, u, e4, e5⟩
    have hj := (List.getElem?_eq_some_iff.1 e1).1
    obtain rfl : j = 0 := by simpa using hj
    simp only [List.getElem?_cons_zero, Option.some.injEq] at e3
    subst e3
    rw [List.mem_singleton] at e4
    subst e4
    exact ⟨rfl, by simp only [ablk, Option.some.injEq] at e5; exact e5.symm⟩
  have hown : ∀ {x}, Own [[.pointer (some ⟨b, 0, none⟩)]] [AO.box (cs.map .val)] x → x = b := fun ⟨j, h⟩ => (hft h).2
  have hg0 : Good [[.pointer (some ⟨b, 0, none⟩)]] w [.box (cs.map .val)] := by
    refine ⟨rfl, fun j o hj => ?_, fun p q x hp hq => (hft hp).1.trans (hft hq).1.symm, fun j x h => ?_, hb.good.zl, ⟨fun p hp h => ?_, hb.good.tt.tl, hb.good.tt.tb⟩⟩
    · have hjl := (List.getElem?_eq_some_iff.1 hj).1
      obtain rfl : j = 0 := by simpa using hjl
      simp only [List.getElem?_cons_zero, Option.some.injEq] at hj
      subst hj
      refine ⟨b, arr, T, rfl, h2, h3, fun j av hj => ?_⟩
      obtain ⟨u, hu, hgm⟩ := h4 j av hj
      rw [List.getElem?_map] at hj
      obtain ⟨u0, _, rfl⟩ := Option.map_eq_some_iff.1 hj
      exact ⟨u, hu, by rw [hgm.val_inv]; exact .val _⟩
    · rw [(hft h).2]; exact hb.good.zf i b hfb
    · refine hb.good.tt.tf p hp ?_
      rw [hown h]
      exact ⟨i, hfb⟩
  have hxs : xs.size = us.length + 1 := by
    have : (evs st xs).length = (AV.ptr i 0 :: us.map AV.val).length := by rw [hv]
    simpa [evs] using this
  refine (hc.2 (ρ := [[.pointer (some ⟨b, 0, none⟩)]]) w _ hg0 (by simp [hxs]) fun j av u hi hu => ?_).mono ?_
  · have hjl := (List.getElem?_eq_some_iff.1 hi).1
    have hjx : j < xs.size := by simp at hjl; omega
    have e4 : u = a.eval (xs[j]'hjx) := by
      rw [Array.append_empty] at hu
      simp [hjx] at hu
      exact hu.symm
    have e2 : (evs st xs)[j]? = some (st.ev (xs[j]'hjx)) := by simp [evs, hjx]
    rw [hv] at e2
    have eg := hb.ev (xs[j]'hjx)
    rw [e4]
    cases j with
    | zero =>
      simp only [List.getElem?_cons_zero, Option.some.injEq] at e2 hi
      subst hi
      rw [← e2] at eg
      obtain ⟨b', l, q1, q2⟩ := eg.ptr_inv
      rw [h1] at q2
      obtain ⟨q3, -⟩ := List.cons.inj (Option.some.inj q2)
      rw [q1]
      obtain rfl : b = b' := by cases q3; rfl
      exact .ptr _ _ _ _ rfl
    | succ j =>
      simp only [List.getElem?_cons_succ] at e2 hi
      rw [List.getElem?_map] at e2 hi
      obtain ⟨u0, q1, q2⟩ := Option.map_eq_some_iff.1 e2
      rw [q1] at hi
      obtain rfl := Option.some.inj hi
      rw [← q2] at eg
      rw [eg.val_inv]
      exact .val _
  · rintro ex w' ⟨rfl, k4⟩
    have hfoot : ∀ {j x}, foot ρ (st.objs.set i .gone) j x → j ≠ i ∧ foot ρ st.objs j x := fun h => by
      rcases foot_set hid h with ⟨_, h, _⟩ | h
      · cases h
      · exact h
    have hM : ∀ x, x < w.heap.size → Own ρ (st.objs.set i .gone) x → Own ρ st.objs x := fun x _ ⟨j, h⟩ => ⟨j, (hfoot h).2⟩
    have hsO : Same (Own ρ st.objs) w w' := ⟨k4.os, k4.tape, k4.output, k4.size, fun k hk hn => k4.block k hk fun h => hn (by rw [hown h]; exact ⟨i, hfb⟩)⟩
    have hgood : Good ρ w' (st.objs.set i .gone) := by
      refine ⟨by simp [hb.good.len], fun j o hj => ?_, fun p q x hp hq => hb.good.dis p q x (hfoot hp).2 (hfoot hq).2, fun j x h hz => hb.good.zf j x (hfoot h).2 hz, fun x hz => Nat.lt_of_lt_of_le (hb.good.zl x hz) k4.size, hb.good.tt.step hsO hM⟩
      by_cases hj1 : j = i
      · subst hj1
        rw [List.getElem?_set_self hid] at hj
        obtain rfl := Option.some.inj hj
        trivial
      · rw [List.getElem?_set_ne (Ne.symm hj1)] at hj
        refine (hb.good.sat j o hj).chg hsO.ban (Ban.mono hM) fun hlv l u x q1 q2 q3 q4 => k4.block x q4 fun e => ?_
        have hf : foot ρ st.objs j x := ⟨o, l, hj, hlv, q1, u, q2, q3⟩
        rw [hown e] at hf
        exact hj1 (hb.good.dis j i b hf hfb)
    have hrb : RelB ρ w' (st.set i .gone) a := ⟨fun t => (hb.frame t).mono hsO.ban (Ban.mono hM) fun _ _ h => h, hb.size, hb.defers, hgood⟩
    exact ⟨_, hk, ⟨⟨ρ, hrb, fun j x h hlt => hf j x (hfoot h).2 hlt, h0⟩, hr.same.trans hsO fun x hx ⟨j, h⟩ => hf j x h hx⟩⟩
end
/-! A function with one deferred call of a closure over two boxes, laid ahead of all else. -/
theorem mkf_run {P : Program} {ev : Operand → Value} {g : FuncId} {xs : Array Operand} {d : Option Tmp} {ty : TypeId} {pos : String} {af : Array Edge} {gd : Option (Nat × Bool)} (w : World) : (execOp ev ⟨d, .makeFunc (.func g) #[] xs, ty, pos, af, gd⟩).run P w = .ok (.value (.func (.func g) #[] (xs.map ev))) w := by
  simp [execOp, go_sem]
theorem def_run {P : Program} {ev : Operand → Value} {g : FuncId} {cap : Array Value} {t : Operand} {d : Option Tmp} {ty : TypeId} {pos : String} {af : Array Edge} {gd : Option (Nat × Bool)} (w : World) (h : ev t = .func (.func g) #[] cap) : (execOp ev ⟨d, .defer ⟨.value t, #[], #[]⟩, ty, pos, af, gd⟩).run P w = .ok (.defer { target := .fn (.func g) cap, args := #[] }) w := by
  simp [execOp, go_sem, resolve, h]
/-- The closure, behind a panic. -/
def CatchP (P : Program) (g : FuncId) (c1 c2 : List AV) (v : Value) (d1 d2 : List AV) : Prop := Enters P g ∧ ∀ [Zs] (ρ : Ids) (w : World) (p0 p1 : Value), Good ρ w [.box c1, .box c2] → Gm ρ w (Ban ρ [.box c1, .box c2]) (.ptr 0 0) p0 → Gm ρ w (Ban ρ [.box c1, .box c2]) (.ptr 1 0) p1 →
  CallsD P g #[p0, p1] (.panicking (pan v)) w fun e u' w' => (∃ x, e = .returned x) ∧ settle u' = .returning ∧ ∃ ρ', Same (Own ρ [.box c1, .box c2]) w w' ∧ Good ρ' w' [.box d1, .box d2] ∧ (∀ (id : Nat) l, ρ[id]? = some l → ρ'[id]? = some l) ∧ (∀ b, Own ρ' [.box d1, .box d2] b → b < w.heap.size → Own ρ [.box c1, .box c2] b)
/-- The closure, where nothing has panicked. -/
def CatchI (P : Program) (g : FuncId) : Prop := Enters P g ∧ ∀ (p0 p1 : Value) (w : World), CallsD P g #[p0, p1] .returning w fun e u' w' => (∃ x, e = .returned x) ∧ u' = .returning ∧ w' = w
/-- The walk ends in the panic v, and the two boxes stand as they are told. -/
def panD (v : Value) (n o1 o2 : Nat) (c1 c2 : List AV) : Exit → St → Prop
  | .panic c, st => c = pan v ∧ st.le ⟨n, [(o1, .ptr 0 0), (o2, .ptr 1 0)], [.box c1, .box c2]⟩ [0, 1]
  | _, _ => False
section
variable {P : Program} {f : FuncId} {fn : Func} {c : Code} {n i0 i1 : Nat} {rs : List ResultVar} {args : List AV} {res : AV} {l0 : List Oper} {g : FuncId} {t o1 o2 : Nat} {c1 c2 d1 d2 : List AV} {vars0 : List (Nat × AV)}
  {ty1 ty2 : TypeId} {ps1 ps2 : String} {af1 af2 : Array Edge}
/-- What both ends share: up to the deferred call's own place. -/
theorem defer_start [Zs] {Q' : Exit → Act → World → Prop} (hle : args.length ≤ n) (hn : fn.ntmps = n)
    (h0 : ∀ [Zs] (cx : Cx ([] : List AO).length), aC P cx (.region i0 l0.toArray false) (onlyA ⟨n, vars0, [.box c1, .box c2]⟩) ⟨n, argv 0 args, []⟩)
    (hv1 : getv vars0 o1 = .ptr 0 0) (hv2 : getv vars0 o2 = .ptr 1 0) {w : World} {vs : Array Value} (hg : Good [] w []) (hsz : vs.size = args.length) (hargs : ∀ (i : Nat) (av : AV) (v : Value), args[i]? = some av → vs[i]? = some v → Gm [] w (Ban [] []) av v)
    (h1 : ∀ (ρ : Ids) (a : Act) (w1 : World) (p0 p1 : Value), RelB ρ w1 ⟨n, vars0, [.box c1, .box c2]⟩ a → (∀ b, Own ρ [.box c1, .box c2] b → ¬ b < w.heap.size) → Same (fun _ => False) w w1 → Gm ρ w1 (Ban ρ [.box c1, .box c2]) (.ptr 0 0) p0 → Gm ρ w1 (Ban ρ [.box c1, .box c2]) (.ptr 1 0) p1 →
      c.wp P Q' (apD (({ a with defers := [] } : Act).put (some t) (.func (.func g) #[] #[p0, p1])) [{ target := .fn (.func g) #[p0, p1], args := #[] }]) w1) (hdt : t < n) :
    (Code.seq (.region i0 l0.toArray false) (.seq (.region i1 (#[⟨some t, .makeFunc (.func g) #[] #[.tmp o1, .tmp o2], ty1, ps1, af1, none⟩, ⟨none, .defer ⟨.value (.tmp t), #[], #[]⟩, ty2, ps2, af2, none⟩] : Array Oper) false) c)).wp P Q' { tmps := vs ++ Array.replicate (fn.ntmps - vs.size) undef, defers := [] } w := by
  have hrel : Rel (⟨w, Own [] [], [], rfl⟩ : Cx ([] : List AO).length) ⟨n, argv 0 args, []⟩ { tmps := vs ++ Array.replicate (fn.ntmps - vs.size) undef, defers := [] } w := by
    refine ⟨⟨[], ⟨fun t => ?_, by simp; omega, rfl, hg⟩, fun id b hfo _ => ⟨id, hfo⟩, fun _ _ h => h⟩, Same.refl _ _⟩
    show Gm [] w (Ban [] []) (getv (argv 0 args) t) _
    rw [getv_argv, if_pos (Nat.zero_le _)]
    by_cases ht : t < args.length
    · have h1 : args[t]? = some args[t] := List.getElem?_eq_getElem ht
      have ht' : t < vs.size := by omega
      have h2 : vs[t]? = some vs[t] := Array.getElem?_eq_getElem ht'
      have h3 : (vs ++ Array.replicate (fn.ntmps - vs.size) undef).getD t undef = vs[t] := by simp [ht', Array.getElem?_append]
      rw [h3]
      simp only [Nat.sub_zero, List.getD_eq_getElem?_getD, h1, Option.getD_some]
      exact hargs t _ _ h1 h2
    · have : args.getD (t - 0) AV.any = .any := by simp; rw [List.getElem?_eq_none (by omega)]; rfl
      rw [this]
      exact .any _
  have hno : ∀ b, ¬ Own [] ([] : List AO) b := fun b ⟨i, o, l, h1, _⟩ => by simp at h1
  refine wp_seq (wp_mono (h0 _ _ _ hrel) ?_)
  rintro e a w1 ⟨st, q, hr1⟩
  cases e with
  | normal =>
    obtain rfl : st = _ := q
    obtain ⟨ρ, hb, hf, _⟩ := hr1.base
    have hs : Same (fun _ => False) w w1 := ⟨hr1.same.os, hr1.same.tape, hr1.same.output, hr1.same.size, fun k hk _ => hr1.same.block k hk (hno k)⟩
    have g1 := hb.frame o1
    have g2 := hb.frame o2
    rw [show St.get ⟨n, vars0, [.box c1, .box c2]⟩ o1 = .ptr 0 0 from hv1] at g1
    rw [show St.get ⟨n, vars0, [.box c1, .box c2]⟩ o2 = .ptr 1 0 from hv2] at g2
    have hd := hb.defers
    have hsz1 : a.tmps.size = n := hb.size
    show Code.wp P _ Q' a w1
    refine wp_seq (wp_region_lit (l := [_, _]) ?_)
    have e1 : ∀ ev : Operand → Value, #[Operand.tmp o1, Operand.tmp o2].map ev = #[ev (.tmp o1), ev (.tmp o2)] := fun ev => by simp
    unfold wpList
    rw [if_pos (by simp [Region.wanted])]
    left
    unfold Oper.wp
    rw [mkf_run, Oper.upon_value, e1]
    unfold wpList
    rw [if_pos (by simp [Region.wanted])]
    left
    unfold Oper.wp
    rw [def_run (g := g) (cap := #[a.eval (.tmp o1), a.eval (.tmp o2)]) w1 (by simp [Act.put, Act.eval, hsz1, hdt]), Oper.upon_defer]
    have := h1 ρ a w1 _ _ hb (fun b ⟨id, h⟩ hlt => hno b (hf id b h hlt)) hs g1 g2
    obtain ⟨tm, df⟩ := a
    simp only at hd
    subst hd
    exact this
  | _ => exact q.elim
theorem enter_fn {g : FuncId} (h : Enters P g) (cap : Array Value) (w : World) : (invoke (.fn (.func g) cap) #[]).run P w = .ok (.enter g cap) w := by
  have := h.run cap w
  simpa [invoke] using this
theorem AC.mkD {objs' : List AO} (hf : P.funcs[f]? = some fn) (hnm : (fn.name == "runtime.NumGoroutine") = false)
    (hb : fn.body = some (.seq (.region i0 l0.toArray false) (.seq (.region i1 (#[⟨some t, .makeFunc (.func g) #[] #[.tmp o1, .tmp o2], ty1, ps1, af1, none⟩, ⟨none, .defer ⟨.value (.tmp t), #[], #[]⟩, ty2, ps2, af2, none⟩] : Array Oper) false) c)))
    (hn : fn.ntmps = n) (hle' : Nat.ble args.length n = true) (hr : fn.results = rs.toArray) (hdt : Nat.blt t n = true)
    (h0 : ∀ [Zs] (cx : Cx ([] : List AO).length), aC P cx (.region i0 l0.toArray false) (onlyA ⟨n, vars0, [.box c1, .box c2]⟩) ⟨n, argv 0 args, []⟩)
    (hv1 : getv vars0 o1 = .ptr 0 0) (hv2 : getv vars0 o2 = .ptr 1 0) (hI : CatchI P g)
    (h1 : ∀ [Zs] (cx : Cx ([] : List AO).length) (D : List Deferred), aK P cx D c (retA P 0 rs res objs') ⟨n, (t, .any) :: vars0, [.box c1, .box c2]⟩) : AC P f args [] res objs' := by
  refine ⟨⟨fn, hf, hnm, by rw [hb]; rfl⟩, ?_⟩
  have hle : args.length ≤ n := Nat.le_of_ble_eq_true hle'
  intro _ ρ w vs hg hsz hargs
  obtain rfl : ρ = [] := List.eq_nil_of_length_eq_zero hg.len
  have hno : ∀ b, ¬ Own [] ([] : List AO) b := fun b ⟨i, o, l, h1, _⟩ => by simp at h1
  refine calls_of_wp_defers hf hb ?_
  refine defer_start hle hn h0 hv1 hv2 hg hsz hargs (fun ρ a w1 p0 p1 hrb hnew hs g1 g2 => ?_) (by simpa [Nat.blt_eq] using hdt)
  have hrb0 : RelB ρ w1 ⟨n, vars0, [.box c1, .box c2]⟩ ({ a with defers := [] } : Act) := ⟨hrb.frame, hrb.size, rfl, hrb.good⟩
  have hrel : Rel (⟨w, Own [] [], [], rfl⟩ : Cx ([] : List AO).length) ⟨n, (t, .any) :: vars0, [.box c1, .box c2]⟩ (({ a with defers := [] } : Act).put (some t) (.func (.func g) #[] #[p0, p1])) w1 :=
    ⟨⟨ρ, hrb0.put hdt (.any _), fun id b hfo hlt => absurd hlt (hnew b ⟨id, hfo⟩), fun id l h => by simp at h⟩, ⟨hs.os, hs.tape, hs.output, hs.size, fun k hk _ => hs.block k hk (fun h => h)⟩⟩
  refine wp_mono (h1 _ _ _ _ hrel) ?_
  rintro e a' w' ⟨a0, st, rfl, hq, ⟨ρ1, hb1, hf1, h01⟩, hs1⟩
  have fin : Ends P 0 rs res objs' st → Leaves P fn a0.tmps (fun e w' => ∃ v ρ', e = .returned v ∧ Same (Own [] []) w w' ∧ Good ρ' w' objs' ∧ Gm ρ' w' (Ban ρ' objs') res v ∧
      (∀ (id : Nat) l, ([] : Ids)[id]? = some l → ρ'[id]? = some l) ∧ (∀ b, Own ρ' objs' b → b < w.heap.size → Own [] ([] : List AO) b)) (apD a0 [{ target := .fn (.func g) #[p0, p1], args := #[] }]).defers .returning w' := by
    rintro ⟨avs, σ, hrv, ho, hv, hσ⟩
    obtain ⟨v, hrun, hgm⟩ := gm_results hb1 hr hrv
    have e1 : (apD a0 [{ target := .fn (.func g) #[p0, p1], args := #[] }]).defers = [{ target := .fn (.func g) #[p0, p1], args := #[] }] := by
      show a0.defers ++ _ = _
      rw [hb1.defers]; rfl
    rw [e1]
    refine leaves_cons (by simp) (enter_fn hI.1 _ _) ((hI.2 p0 p1 w').mono ?_)
    rintro e u' w'' ⟨⟨x, rfl⟩, rfl, rfl⟩
    refine ⟨v, hrun, v, reId ρ1 σ, rfl, hs1, hb1.good.view ho, hv.gm hb1.good ho v hgm, fun id l hl => (by simp at hl), fun b hb hlt => ?_⟩
    obtain ⟨id', hfo⟩ := hb
    obtain ⟨id, _, hfo'⟩ := foot_view hb1.good ho hfo
    exact hf1 id b hfo' hlt
  cases e with
  | normal => exact fin hq
  | ret => exact fin hq
  | _ => exact hq.elim
theorem AC.mkP {objs' : List AO} {v : Value} (hf : P.funcs[f]? = some fn) (hnm : (fn.name == "runtime.NumGoroutine") = false)
    (hb : fn.body = some (.seq (.region i0 l0.toArray false) (.seq (.region i1 (#[⟨some t, .makeFunc (.func g) #[] #[.tmp o1, .tmp o2], ty1, ps1, af1, none⟩, ⟨none, .defer ⟨.value (.tmp t), #[], #[]⟩, ty2, ps2, af2, none⟩] : Array Oper) false) c)))
    (hn : fn.ntmps = n) (hle' : Nat.ble args.length n = true) (hr : fn.results = rs.toArray) (hdt : Nat.blt t n = true)
    (h0 : ∀ [Zs] (cx : Cx ([] : List AO).length), aC P cx (.region i0 l0.toArray false) (onlyA ⟨n, vars0, [.box c1, .box c2]⟩) ⟨n, argv 0 args, []⟩)
    (hv1 : getv vars0 o1 = .ptr 0 0) (hv2 : getv vars0 o2 = .ptr 1 0) {e1 e2 : List AV} (hC : CatchP P g e1 e2 v d1 d2) (hE : Ends P 0 rs res objs' ⟨n, [(o1, .ptr 0 0), (o2, .ptr 1 0)], [.box d1, .box d2]⟩)
    (h1 : ∀ [Zs] (cx : Cx [AO.box c1, AO.box c2].length) (D : List Deferred), aK P cx D c (panD v n o1 o2 e1 e2) ⟨n, (t, .any) :: vars0, [.box c1, .box c2]⟩) : AC P f args [] res objs' := by
  refine ⟨⟨fn, hf, hnm, by rw [hb]; rfl⟩, ?_⟩
  have hle : args.length ≤ n := Nat.le_of_ble_eq_true hle'
  intro _ ρ w vs hg hsz hargs
  obtain rfl : ρ = [] := List.eq_nil_of_length_eq_zero hg.len
  refine calls_of_wp_defers hf hb ?_
  refine defer_start hle hn h0 hv1 hv2 hg hsz hargs (fun ρ a w1 p0 p1 hrb hnew hs g1 g2 => ?_) (by simpa [Nat.blt_eq] using hdt)
  have hrb0 : RelB ρ w1 ⟨n, vars0, [.box c1, .box c2]⟩ ({ a with defers := [] } : Act) := ⟨hrb.frame, hrb.size, rfl, hrb.good⟩
  have hrel : Rel (⟨w1, Own ρ [.box c1, .box c2], ρ, hrb.good.len⟩ : Cx [AO.box c1, AO.box c2].length) ⟨n, (t, .any) :: vars0, [.box c1, .box c2]⟩ (({ a with defers := [] } : Act).put (some t) (.func (.func g) #[] #[p0, p1])) w1 :=
    ⟨⟨ρ, hrb0.put hdt (.any _), fun id b hfo hlt => ⟨id, hfo⟩, fun id l h => h⟩, Same.refl _ _⟩
  refine wp_mono (h1 _ _ _ _ hrel) ?_
  rintro e a' w' ⟨a0, st, rfl, hq, hr0⟩
  cases e with
  | panic ch =>
    obtain ⟨rfl, hle2⟩ := hq
    obtain ⟨⟨ρ1, hb1, hf1, h01⟩, hs1⟩ := hr0.le hle2 rfl
    obtain ⟨b0, l0', q1, q2⟩ := g1.ptr_inv
    obtain ⟨b1, l1', q3, q4⟩ := g2.ptr_inv
    have f1 := hb1.frame o1
    have f2 := hb1.frame o2
    have e1' : (apD a0 [{ target := .fn (.func g) #[p0, p1], args := #[] }]).defers = [{ target := .fn (.func g) #[p0, p1], args := #[] }] := by
      show a0.defers ++ _ = _
      rw [hb1.defers]; rfl
    show Leaves P fn a0.tmps _ (apD a0 [{ target := .fn (.func g) #[p0, p1], args := #[] }]).defers (.panicking (pan v)) w'
    rw [e1']
    refine leaves_cons (by simp) (enter_fn hC.1 _ _) ((hC.2 ρ1 w' p0 p1 hb1.good (by rw [q1]; exact .ptr _ _ _ _ (h01 _ _ q2)) (by rw [q3]; exact .ptr _ _ _ _ (h01 _ _ q4))).mono ?_)
    rintro e u' w'' ⟨⟨x, rfl⟩, hu, ρ2, hs2, hg2, hh2, hn2⟩
    have hrb2 : RelB ρ2 w'' ⟨n, [(o1, .ptr 0 0), (o2, .ptr 1 0)], [.box d1, .box d2]⟩ a0 := by
      refine ⟨fun t' => ?_, ?_, hb1.defers, hg2⟩
      · show Gm _ _ _ (getv _ t') _
        have hf0 := hb1.frame t'
        change Gm _ _ _ (getv [(o1, .ptr 0 0), (o2, .ptr 1 0)] t') _ at hf0
        rw [getv_cons, getv_cons] at hf0 ⊢
        by_cases h1 : o1 = t'
        · rw [if_pos h1] at hf0 ⊢
          obtain ⟨b, l, r1, r2⟩ := hf0.ptr_inv
          rw [r1]; exact .ptr _ _ _ _ (hh2 _ _ r2)
        · rw [if_neg h1] at hf0 ⊢
          by_cases h2 : o2 = t'
          · rw [if_pos h2] at hf0 ⊢
            obtain ⟨b, l, r1, r2⟩ := hf0.ptr_inv
            rw [r1]; exact .ptr _ _ _ _ (hh2 _ _ r2)
          · rw [if_neg h2]; exact .any _
      · exact hb1.size
    obtain ⟨avs, σ, hrv, ho, hv, hσ⟩ := hE
    obtain ⟨v', hrun, hgm⟩ := gm_results hrb2 hr hrv
    show Leaves P fn a0.tmps _ [] (settle u') w''
    rw [hu]
    refine ⟨v', hrun, v', reId ρ2 σ, rfl, ?_, hrb2.good.view ho, hv.gm hrb2.good ho v' hgm, fun id l hl => (by simp at hl), fun b hb hlt => ?_⟩
    · refine ⟨hs2.os.trans (hs1.os.trans hs.os), hs2.tape.trans (hs1.tape.trans hs.tape), hs2.output.trans (hs1.output.trans hs.output), Nat.le_trans hs.size (Nat.le_trans hs1.size hs2.size), fun k hk _ => ?_⟩
      have k1 : k < w1.heap.size := Nat.lt_of_lt_of_le hk hs.size
      have k2 : k < w'.heap.size := Nat.lt_of_lt_of_le k1 hs1.size
      have n1 : ¬ Own ρ [.box c1, .box c2] k := fun h => hnew k h hk
      have n2 : ¬ Own ρ1 [.box e1, .box e2] k := fun ⟨id, h⟩ => n1 (hf1 id k h k1)
      rw [hs2.block k k2 n2, hs1.block k k1 n1, hs.block k hk (fun h => h)]
    · obtain ⟨id', hfo⟩ := hb
      obtain ⟨id, _, hfo'⟩ := foot_view hrb2.good ho hfo
      have k1 : b < w1.heap.size := Nat.lt_of_lt_of_le hlt hs.size
      have k2 : b < w'.heap.size := Nat.lt_of_lt_of_le k1 hs1.size
      obtain ⟨id2, h3⟩ := hn2 b ⟨id, hfo'⟩ k2
      exact absurd hlt (hnew b (hf1 id2 b h3 k1))
  | _ => exact hq.elim
end
end Go.Proofs.YtpfldhaaiglgdaaDoor
